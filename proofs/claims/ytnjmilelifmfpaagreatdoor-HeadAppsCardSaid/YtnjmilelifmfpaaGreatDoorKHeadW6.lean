-- Written for this claim: several texts in one.
import Derived.Test.YtnjmilelifmfpaaGreatDoorKHeadW1
import Derived.Test.YtnjmilelifmfpaaGreatDoorProg
import Derived.Test.YtnjmilelifmfpaaGreatDoorKHeadW5
import Derived.Test.YtnjmilelifmfpaaGreatDoorKHeadW2
import Derived.KernelRfl
import Derived.Test.YtnjmilelifmfpaaGreatDoorKHeadW4
import Derived.Test.YtnjmilelifmfpaaGreatDoorRows
import Derived.Deep.Slices
import Derived.ProofKit
import Derived.OpenShut
set_option linter.unusedSimpArgs false
set_option linter.unusedVariables false
namespace Go.Proofs.YtnjmilelifmfpaaGreatDoor.Ev
open Go Go.RowKit
def c27 : ACode := (.seq (.reg [b 4 (.alloc [(.int .i64 0), (.string ⟨#[]⟩), (.int .i64 0), (.int .i64 0), (.slice none 0 0)]), b 5 (.mv (I 0)), b 6 (.mv (I 0))]) (.seq (.seq (.reg [b 11 (.mv (T 1)), b 12 (.sc (.bin .lss 3) [(T 11), (I 1)]), b 13 (.mv (T 12)), bg 14 13 false (.mv (T 1)), bg 15 13 false (.sc (.bin .gtr 3) [(T 14), (I 200)]), b 16 (.pick (T 13) (B true) (T 15))]) (.cond (T 16) (.seq (.reg [b 17 (.bld [(.int .i64 0), (.string ⟨#[]⟩), (.int .i64 0), (.int .i64 0), (.slice none 0 0)] []), b0 (.st 5 (T 4) (T 17)), b 5 (.mv (I 0)), b 6 (.mv (I 1))]) .ret) .skip)) (.seq (.seq (.reg [b 18 (.mv (T 0)), b 19 (.sc (.bi .len [9] 3) [(T 18)]), b 20 (.sc (.bin .gtr 3) [(T 19), (I 4096)])]) (.cond (T 20) (.seq (.reg [b 21 (.bld [(.int .i64 0), (.string ⟨#[]⟩), (.int .i64 0), (.int .i64 0), (.slice none 0 0)] []), b0 (.st 5 (T 4) (T 21)), b 5 (.mv (I 0)), b 6 (.mv (I 32))]) .ret) .skip)) (.seq (.reg [b 23 (.mv (T 0)), b 24 (.call 46 [(T 23)]), b 22 (.mv (T 24)), b 25 (.ex (T 22) 0), b 26 (.ex (T 22) 1), b 27 (.ex (T 22) 2), b 7 (.mv (T 25)), b 8 (.mv (T 26)), b 9 (.mv (T 27))]) (.seq (.seq (.reg [b 28 (.mv (T 9)), b 29 (.sc (.bin .neq 30) [(T 28), (I 0)])]) (.cond (T 29) (.seq (.reg [b 30 (.bld [(.int .i64 0), (.string ⟨#[]⟩), (.int .i64 0), (.int .i64 0), (.slice none 0 0)] []), b 31 (.mv (T 8)), b 32 (.mv (T 9)), b0 (.st 5 (T 4) (T 30)), b 5 (.mv (T 31)), b 6 (.mv (T 32))]) .ret) .skip)) (.seq (.reg [b 33 (.mv (T 7)), b 34 (.call 47 [(T 33), (I 0)]), b 10 (.alloc [(.int .i64 0), (.string ⟨#[]⟩), (.int .i64 0), (.int .i64 0), (.slice none 0 0), (.int .i64 0), (.bool false)]), b0 (.st 7 (T 10) (T 34))]) (.seq (.seq (.reg [b 35 (.fa 6 (T 10)), b 36 (.ld false 1 (T 35)), b 37 (.sc (.un .not) [(T 36)]), b 38 (.mv (T 37)), bg 39 38 false (.fa 5 (T 10)), bg 40 38 false (.ld false 1 (T 39)), bg 41 38 false (.mv (T 7)), bg 42 38 false (.ln (T 41)), bg 43 38 false (.sc (.bin .lss 3) [(T 40), (T 42)]), b 44 (.pick (T 38) (B true) (T 43))]) (.cond (T 44) (.seq (.seq (.reg [b 45 (.fa 5 (T 10)), b 46 (.ld false 1 (T 45)), b 47 (.mv (T 7)), b 48 (.ln (T 47)), b 49 (.sc (.bin .lss 3) [(T 46), (T 48)])]) (.cond (T 49) (.seq .bad .ret) .skip)) (.seq (.reg [b 57 (.bld [(.int .i64 0), (.string ⟨#[]⟩), (.int .i64 0), (.int .i64 0), (.slice none 0 0)] []), b 58 (.mv (T 0)), b 59 (.sc (.bi .len [9] 3) [(T 58)]), b0 (.st 5 (T 4) (T 57)), b 5 (.mv (T 59)), b 6 (.mv (I 30))]) .ret)) .skip)) (.seq (.seq (.reg [b 60 (.fa 0 (T 10)), b 61 (.ld true 5 (T 60)), b 62 (.call 48 [(T 61)]), b 63 (.mv (T 1)), b 64 (.sc (.bin .gtr 3) [(T 62), (T 63)])]) (.cond (T 64) (.seq (.reg [b 65 (.bld [(.int .i64 0), (.string ⟨#[]⟩), (.int .i64 0), (.int .i64 0), (.slice none 0 0)] []), b0 (.st 5 (T 4) (T 65)), b 5 (.mv (I 0)), b 6 (.mv (I 31))]) .ret) .skip)) (.seq (.reg [b 66 (.fa 0 (T 10)), b 67 (.ld true 5 (T 66)), b0 (.st 5 (T 4) (T 67)), b 5 (.mv (I 0)), b 6 (.mv (I 0))]) .ret)))))))))
theorem k27 : ∃ code, Tryz.prog.funcs[27]? = some Tryz.f27 ∧ Tryz.f27.body = some code ∧ comp Tryz.prog Tryz.f27.ntmps code = some c27 ∧ rvs Tryz.prog Tryz.f27.results.toList = some [(.c true 5 4), (.t 5), (.t 6)] := ⟨_, Tryz.func27, rfl, by kernel_rfl, by kernel_rfl⟩
def c28 : ACode := (.seq (.reg [b 1 (.box (T 0)), b 2 (.alloc [(.int .i64 0), (.int .i64 0), (.string ⟨#[]⟩), (.slice none 0 0)]), b 3 (.mv (I 0)), b 4 (.mv (I 0))]) (.seq (.reg [b 8 (.ld true 5 (T 1)), b 9 (.call 49 [(T 8)]), b 7 (.mv (T 9)), b 10 (.ex (T 7) 0), b 11 (.ex (T 7) 1), b 5 (.mv (T 10)), b 6 (.mv (T 11))]) (.seq (.seq (.reg [b 12 (.mv (T 6)), b 13 (.sc (.bin .neq 30) [(T 12), (I 0)])]) (.cond (T 13) (.seq (.reg [b 14 (.bld [(.int .i64 0), (.int .i64 0), (.string ⟨#[]⟩), (.slice none 0 0)] []), b 15 (.mv (T 5)), b 16 (.mv (T 6)), b0 (.st 4 (T 2) (T 14)), b 3 (.mv (T 15)), b 4 (.mv (T 16))]) .ret) .skip)) (.seq (.reg [b 17 (.ld true 5 (T 1)), b 18 (.call 50 [(T 17), NilS]), b0 (.st 4 (T 2) (T 18)), b 3 (.mv (I 0)), b 4 (.mv (I 0))]) .ret))))
theorem k28 : ∃ code, Tryz.prog.funcs[28]? = some Tryz.f28 ∧ Tryz.f28.body = some code ∧ comp Tryz.prog Tryz.f28.ntmps code = some c28 ∧ rvs Tryz.prog Tryz.f28.results.toList = some [(.c true 4 2), (.t 3), (.t 4)] := ⟨_, Tryz.func28, rfl, by kernel_rfl, by kernel_rfl⟩
def c46 : ACode := (.seq (.reg [b 2 (.mv NilS), b 3 (.mv (I 0)), b 4 (.mv (I 0))]) (.seq (.reg [b 9 (.bs 63 4 []), b 5 (.mv (T 9))]) (.seq (.seq (.reg [b 6 (.mv (I 0))]) (.block 0 (.loop (.seq (.seq (.reg [b 10 (.mv (T 6)), b 11 (.mv (T 0)), b 12 (.sc (.bi .len [9] 3) [(T 11)]), b 13 (.sc (.bin .lss 3) [(T 10), (T 12)])]) (.cond (T 13) .skip (.exit 0))) (.block 1 (.seq (.seq (.reg [b 14 (.mv (T 0)), b 15 (.mv (T 6)), b 16 (.sc (.ix 9) [(T 14), (T 15)]), b 17 (.call 67 [(T 16)]), b 18 (.sc (.bin .eql 3) [(T 17), (I 4)])]) (.cond (T 18) (.seq (.reg [b 19 (.mv (T 6)), b 20 (.sc (.bin .add 3) [(T 19), (I 1)]), b 6 (.mv (T 20))]) (.exit 1)) .skip)) (.seq (.reg [b 22 (.mv (T 0)), b 23 (.mv (T 6)), b 24 (.call 68 [(T 22), (T 23)]), b 21 (.mv (T 24)), b 25 (.ex (T 21) 0), b 26 (.ex (T 21) 1), b 7 (.alloc [(.int .i64 0), (.string ⟨#[]⟩), (.int .i64 0), (.int .i64 0)]), b0 (.st 4 (T 7) (T 25)), b 8 (.mv (T 26))]) (.seq (.seq (.reg [b 27 (.mv (T 8)), b 28 (.sc (.bin .neq 30) [(T 27), (I 0)])]) (.cond (T 28) (.seq (.reg [b 29 (.mv (T 6)), b 30 (.mv (T 8)), b 2 (.mv NilS), b 3 (.mv (T 29)), b 4 (.mv (T 30))]) .ret) .skip)) (.seq (.reg [b 31 (.mv (T 5)), b 32 (.ld true 4 (T 7)), b 33 (.bs 63 4 [(T 32)]), b 34 (.ap 63 4 40 (T 31) (T 33)), b 5 (.mv (T 34))]) (.reg [b 35 (.mv (T 6)), b 36 (.fa 1 (T 7)), b 37 (.ld false 1 (T 36)), b 38 (.sc (.bi .len [9] 3) [(T 37)]), b 39 (.sc (.bin .add 3) [(T 35), (T 38)]), b 6 (.mv (T 39))])))))))))) (.seq (.reg [b 40 (.mv (T 5)), b 2 (.mv (T 40)), b 3 (.mv (I 0)), b 4 (.mv (I 0))]) .ret))))
theorem k46 : ∃ code, Tryz.prog.funcs[46]? = some Tryz.f46 ∧ Tryz.f46.body = some code ∧ comp Tryz.prog Tryz.f46.ntmps code = some c46 ∧ rvs Tryz.prog Tryz.f46.results.toList = some [(.t 2), (.t 3), (.t 4)] := ⟨_, Tryz.func46, rfl, by kernel_rfl, by kernel_rfl⟩
def c47 : ACode := (.seq (.reg [b 4 (.alloc [(.int .i64 0), (.string ⟨#[]⟩), (.int .i64 0), (.int .i64 0), (.slice none 0 0), (.int .i64 0), (.bool false)])]) (.seq (.seq (.reg [b 5 (.mv (T 0)), b 6 (.mv (T 1)), b 7 (.call 69 [(T 5), (T 6)])]) (.block 0 (.seq (.reg [b 9 (.sc (.bin .eql 9) [(T 7), (S [92])]), b 8 (.mv (T 9))]) (.cond (T 8) (.seq (.reg [b 10 (.mv (T 0)), b 11 (.mv (T 1)), b 12 (.call 70 [(T 10), (T 11)]), b0 (.st 7 (T 4) (T 12))]) .ret) (.seq (.seq (.reg [b 14 (.sc (.bin .eql 9) [(T 7), (S [108, 101, 116])]), b 13 (.mv (T 14))]) (.cond (T 13) .skip (.reg [b 15 (.sc (.bin .eql 9) [(T 7), (S [108, 101, 116, 114, 101, 99])]), b 13 (.mv (T 15))]))) (.cond (T 13) (.seq (.reg [b 16 (.mv (T 0)), b 17 (.mv (T 1)), b 18 (.call 71 [(T 16), (T 17)]), b0 (.st 7 (T 4) (T 18))]) .ret) (.seq (.reg [b 20 (.sc (.bin .eql 9) [(T 7), (S [99, 97, 115, 101])]), b 19 (.mv (T 20))]) (.cond (T 19) (.seq (.reg [b 21 (.mv (T 0)), b 22 (.mv (T 1)), b 23 (.call 72 [(T 21), (T 22)]), b0 (.st 7 (T 4) (T 23))]) .ret) .skip)))))))) (.seq (.reg [b 24 (.mv (T 0)), b 25 (.mv (T 1)), b 26 (.call 73 [(T 24), (T 25), (I 0)]), b0 (.st 7 (T 4) (T 26))]) .ret)))
theorem k47 : ∃ code, Tryz.prog.funcs[47]? = some Tryz.f47 ∧ Tryz.f47.body = some code ∧ comp Tryz.prog Tryz.f47.ntmps code = some c47 ∧ rvs Tryz.prog Tryz.f47.results.toList = some [(.c true 7 4)] := ⟨_, Tryz.func47, rfl, by kernel_rfl, by kernel_rfl⟩
def c48 : ACode := (.seq (.reg [b 1 (.box (T 0)), b 2 (.mv (I 0))]) (.seq (.reg [b 3 (.mv (I 0))]) (.seq (.seq (.reg [b 4 (.mv (I 0))]) (.block 0 (.loop (.seq (.seq (.reg [b 5 (.mv (T 4)), b 6 (.fa 4 (T 1)), b 7 (.ld false 1 (T 6)), b 8 (.ln (T 7)), b 9 (.sc (.bin .lss 3) [(T 5), (T 8)])]) (.cond (T 9) .skip (.exit 0))) (.seq (.block 1 (.reg [b 12 (.mv (T 3)), b 13 (.fa 4 (T 1)), b 14 (.ld false 1 (T 13)), b 15 (.mv (T 4)), b 16 (.ia 5 (T 14) (T 15)), b 17 (.ld true 5 (T 16)), b 18 (.call 48 [(T 17)]), b 19 (.sc (.bi .max [3, 3] 3) [(T 12), (T 18)]), b 3 (.mv (T 19))])) (.reg [b 10 (.mv (T 4)), b 11 (.sc (.bin .add 3) [(T 10), (I 1)]), b 4 (.mv (T 11))])))))) (.seq (.reg [b 20 (.mv (T 3)), b 21 (.sc (.bin .add 3) [(T 20), (I 1)]), b 2 (.mv (T 21))]) .ret))))
theorem k48 : ∃ code, Tryz.prog.funcs[48]? = some Tryz.f48 ∧ Tryz.f48.body = some code ∧ comp Tryz.prog Tryz.f48.ntmps code = some c48 ∧ rvs Tryz.prog Tryz.f48.results.toList = some [(.t 2)] := ⟨_, Tryz.func48, rfl, by kernel_rfl, by kernel_rfl⟩
def c49 : ACode := (.seq (.reg [b 1 (.box (T 0)), b 2 (.mv (I 0)), b 3 (.mv (I 0))]) (.seq (.seq (.reg [b 4 (.ld true 5 (T 1)), b 5 (.call 74 [(T 4)]), b 6 (.sc (.un .not) [(T 5)])]) (.cond (T 6) (.seq (.reg [b 2 (.mv (I 0)), b 3 (.mv (I 1))]) .ret) .skip)) (.seq (.reg [a 7 (.ld true 5 (T 1)), b 8 (.ld true 5 (T 1)), b 9 (.call 76 [(T 8)]), b 10 (.call 75 [(T 7), NilS, NilS, (T 9)]), a 11 (.ex (T 10) 0), b 12 (.ex (T 10) 1), b 2 (.mv (T 11)), b 3 (.mv (T 12))]) .ret)))
theorem k49 : ∃ code, Tryz.prog.funcs[49]? = some Tryz.f49 ∧ Tryz.f49.body = some code ∧ comp Tryz.prog Tryz.f49.ntmps code = some c49 ∧ rvs Tryz.prog Tryz.f49.results.toList = some [(.t 2), (.t 3)] := ⟨_, Tryz.func49, rfl, by kernel_rfl, by kernel_rfl⟩
def c50 : ACode := (.seq (.reg [b 2 (.box (T 0)), b 4 (.alloc [(.int .i64 0), (.int .i64 0), (.string ⟨#[]⟩), (.slice none 0 0)])]) (.seq (.seq (.reg [b 9 (.fa 0 (T 2)), b 10 (.ld false 1 (T 9))]) (.block 0 (.seq (.reg [b 12 (.sc (.bin .eql 3) [(T 10), (I 1)]), b 11 (.mv (T 12))]) (.cond (T 11) (.seq (.reg [b 13 (.mv (T 1)), b 14 (.fa 1 (T 2)), b 15 (.ld false 1 (T 14)), b 16 (.call 77 [(T 13), (T 15)]), b 17 (.bld [(.int .i64 0), (.int .i64 0), (.string ⟨#[]⟩), (.slice none 0 0)] [(0, (1, (I 1))), (1, (1, (T 16)))]), b0 (.st 4 (T 4) (T 17))]) .ret) (.seq (.reg [b 19 (.sc (.bin .eql 3) [(T 10), (I 2)]), b 18 (.mv (T 19))]) (.cond (T 18) (.seq (.reg [a 20 (.fa 4 (T 2)), a 21 (.ld false 1 (T 20)), a 22 (.ia 5 (T 21) (I 0)), a 23 (.ld true 5 (T 22)), a 24 (.mv (T 1)), b 25 (.fa 1 (T 2)), b 26 (.ld false 1 (T 25)), b 27 (.call 79 [(T 24), (T 26)]), b 28 (.call 50 [(T 23), (T 27)]), b 29 (.call 78 [(T 28)]), b0 (.st 4 (T 4) (T 29))]) .ret) (.seq (.reg [b 31 (.sc (.bin .eql 3) [(T 10), (I 3)]), b 30 (.mv (T 31))]) (.cond (T 30) (.seq (.reg [a 32 (.fa 4 (T 2)), a 33 (.ld false 1 (T 32)), a 34 (.ia 5 (T 33) (I 0)), a 35 (.ld true 5 (T 34)), a 36 (.mv (T 1)), a 37 (.call 50 [(T 35), (T 36)]), a 38 (.fa 4 (T 2)), a 39 (.ld false 1 (T 38)), a 40 (.ia 5 (T 39) (I 1)), a 41 (.ld true 5 (T 40)), b 42 (.mv (T 1)), b 43 (.call 50 [(T 41), (T 42)]), b 44 (.call 80 [(I 3), (T 37), (T 43)]), b0 (.st 4 (T 4) (T 44))]) .ret) (.seq (.reg [b 46 (.sc (.bin .eql 3) [(T 10), (I 4)]), b 45 (.mv (T 46))]) (.cond (T 45) (.seq (.reg [a 47 (.fa 4 (T 2)), a 48 (.ld false 1 (T 47)), a 49 (.ia 5 (T 48) (I 1)), a 50 (.ld true 5 (T 49)), a 51 (.mv (T 1)), a 52 (.fa 1 (T 2)), a 53 (.ld false 1 (T 52)), a 54 (.call 79 [(T 51), (T 53)]), a 55 (.call 50 [(T 50), (T 54)]), a 56 (.call 78 [(T 55)]), a 57 (.fa 4 (T 2)), a 58 (.ld false 1 (T 57)), a 59 (.ia 5 (T 58) (I 0)), a 60 (.ld true 5 (T 59)), b 61 (.mv (T 1)), b 62 (.call 50 [(T 60), (T 61)]), b 63 (.call 80 [(I 3), (T 56), (T 62)]), b0 (.st 4 (T 4) (T 63))]) .ret) (.seq (.reg [b 65 (.sc (.bin .eql 3) [(T 10), (I 5)]), b 64 (.mv (T 65))]) (.cond (T 64) (.seq (.reg [a 66 (.call 81 []), a 67 (.fa 4 (T 2)), a 68 (.ld false 1 (T 67)), a 69 (.ia 5 (T 68) (I 0)), a 70 (.ld true 5 (T 69)), a 71 (.mv (T 1)), a 72 (.fa 1 (T 2)), a 73 (.ld false 1 (T 72)), a 74 (.call 79 [(T 71), (T 73)]), a 75 (.call 50 [(T 70), (T 74)]), a 76 (.call 78 [(T 75)]), a 77 (.call 80 [(I 3), (T 66), (T 76)]), b 5 (.alloc [(.int .i64 0), (.int .i64 0), (.string ⟨#[]⟩), (.slice none 0 0)]), b0 (.st 4 (T 5) (T 77))]) (.seq (.reg [a 78 (.fa 4 (T 2)), a 79 (.ld false 1 (T 78)), a 80 (.ia 5 (T 79) (I 1)), a 81 (.ld true 5 (T 80)), a 82 (.mv (T 1)), a 83 (.fa 1 (T 2)), a 84 (.ld false 1 (T 83)), a 85 (.call 79 [(T 82), (T 84)]), a 86 (.call 50 [(T 81), (T 85)]), a 87 (.call 78 [(T 86)]), b 88 (.ld true 4 (T 5)), b 89 (.call 80 [(I 3), (T 87), (T 88)]), b0 (.st 4 (T 4) (T 89))]) .ret)) (.seq (.reg [b 91 (.sc (.bin .eql 3) [(T 10), (I 8)]), b 90 (.mv (T 91))]) (.cond (T 90) (.seq (.seq (.reg [b 6 (.mv (I 0))]) (.block 1 (.loop (.seq (.seq (.reg [b 92 (.mv (T 6)), b 93 (.fa 2 (T 2)), b 94 (.ld false 1 (T 93)), b 95 (.sc (.bin .lss 3) [(T 92), (T 94)])]) (.cond (T 95) .skip (.exit 1))) (.seq (.block 2 (.reg [b 98 (.mv (T 1)), b 99 (.fa 4 (T 2)), b 100 (.ld false 1 (T 99)), b 101 (.mv (T 6)), b 102 (.ia 5 (T 100) (T 101)), b 103 (.fa 1 (T 102)), b 104 (.ld false 1 (T 103)), b 105 (.call 79 [(T 98), (T 104)]), b 1 (.mv (T 105))])) (.reg [b 96 (.mv (T 6)), b 97 (.sc (.bin .add 3) [(T 96), (I 1)]), b 6 (.mv (T 97))])))))) (.seq (.reg [a 106 (.fa 1 (T 2)), a 107 (.ld false 1 (T 106)), a 108 (.fa 2 (T 2)), a 109 (.ld false 1 (T 108)), a 110 (.fa 4 (T 2)), a 111 (.ld false 1 (T 110)), a 112 (.fa 2 (T 2)), a 113 (.ld false 1 (T 112)), a 114 (.ia 5 (T 111) (T 113)), a 115 (.ld true 5 (T 114)), b 116 (.mv (T 1)), b 117 (.call 50 [(T 115), (T 116)]), b 118 (.bs 24 4 [(T 117)]), b 119 (.bld [(.int .i64 0), (.int .i64 0), (.string ⟨#[]⟩), (.slice none 0 0)] [(0, (1, (I 6))), (2, (1, (T 107))), (1, (1, (T 109))), (3, (1, (T 118)))]), b0 (.st 4 (T 4) (T 119))]) .ret)) (.seq (.reg [b 121 (.sc (.bin .eql 3) [(T 10), (I 9)]), b 120 (.mv (T 121))]) (.cond (T 120) (.seq (.reg [b 122 (.fa 2 (T 2)), b 123 (.ld false 1 (T 122)), b 124 (.bld [(.int .i64 0), (.int .i64 0), (.string ⟨#[]⟩), (.slice none 0 0)] [(0, (1, (I 7))), (1, (1, (T 123)))]), b0 (.st 4 (T 4) (T 124))]) .ret) .skip)))))))))))))))) (.seq (.reg [b 125 (.fa 1 (T 2)), b 126 (.ld false 1 (T 125)), b 127 (.bld [(.int .i64 0), (.int .i64 0), (.string ⟨#[]⟩), (.slice none 0 0)] [(0, (1, (I 4))), (2, (1, (T 126)))]), b 7 (.alloc [(.int .i64 0), (.int .i64 0), (.string ⟨#[]⟩), (.slice none 0 0)]), b0 (.st 4 (T 7) (T 127))]) (.seq (.seq (.reg [b 128 (.fa 0 (T 2)), b 129 (.ld false 1 (T 128)), b 130 (.sc (.bin .eql 3) [(T 129), (I 7)])]) (.cond (T 130) (.reg [b 131 (.fa 0 (T 7)), b0 (.st 1 (T 131) (I 5))]) .skip)) (.seq (.seq (.reg [b 132 (.fa 0 (T 2)), b 133 (.ld false 1 (T 132)), b 134 (.sc (.bin .eql 3) [(T 133), (I 10)])]) (.cond (T 134) (.reg [b 135 (.fa 0 (T 7)), b0 (.st 1 (T 135) (I 8))]) .skip)) (.seq (.seq (.reg [b 8 (.mv (I 0))]) (.block 3 (.loop (.seq (.seq (.reg [b 136 (.mv (T 8)), b 137 (.fa 4 (T 2)), b 138 (.ld false 1 (T 137)), b 139 (.ln (T 138)), b 140 (.sc (.bin .lss 3) [(T 136), (T 139)])]) (.cond (T 140) .skip (.exit 3))) (.seq (.block 4 (.reg [a 143 (.fa 3 (T 7)), a 144 (.ld false 1 (T 143)), a 145 (.fa 4 (T 2)), a 146 (.ld false 1 (T 145)), a 147 (.mv (T 8)), a 148 (.ia 5 (T 146) (T 147)), a 149 (.ld true 5 (T 148)), b 150 (.mv (T 1)), b 151 (.call 50 [(T 149), (T 150)]), b 152 (.bs 24 4 [(T 151)]), b 153 (.ap 24 4 56 (T 144) (T 152)), b 154 (.fa 3 (T 7)), b0 (.st 1 (T 154) (T 153))])) (.reg [b 141 (.mv (T 8)), b 142 (.sc (.bin .add 3) [(T 141), (I 1)]), b 8 (.mv (T 142))])))))) (.seq (.reg [b 155 (.ld true 4 (T 7)), b0 (.st 4 (T 4) (T 155))]) .ret)))))))
theorem k50 : ∃ code, Tryz.prog.funcs[50]? = some Tryz.f50 ∧ Tryz.f50.body = some code ∧ comp Tryz.prog Tryz.f50.ntmps code = some c50 ∧ rvs Tryz.prog Tryz.f50.results.toList = some [(.c true 4 4)] := ⟨_, Tryz.func50, rfl, by kernel_rfl, by kernel_rfl⟩
def c67 : ACode := (.seq (.reg [b 2 (.mv (I 0))]) (.seq (.seq (.reg [b 3 (.mv (T 0)), b 4 (.sc (.bin .geq 5) [(T 3), (U8 97)]), b 5 (.mv (T 4)), bg 6 5 true (.mv (T 0)), bg 7 5 true (.sc (.bin .leq 5) [(T 6), (U8 122)]), b 8 (.pick (T 5) (T 7) (B false))]) (.cond (T 8) (.seq (.reg [b 2 (.mv (I 1))]) .ret) .skip)) (.seq (.seq (.reg [b 9 (.mv (T 0)), b 10 (.sc (.bin .geq 5) [(T 9), (U8 65)]), b 11 (.mv (T 10)), bg 12 11 true (.mv (T 0)), bg 13 11 true (.sc (.bin .leq 5) [(T 12), (U8 90)]), b 14 (.pick (T 11) (T 13) (B false))]) (.cond (T 14) (.seq (.reg [b 2 (.mv (I 2))]) .ret) .skip)) (.seq (.seq (.reg [b 15 (.mv (T 0)), b 16 (.sc (.bin .geq 5) [(T 15), (U8 48)]), b 17 (.mv (T 16)), bg 18 17 true (.mv (T 0)), bg 19 17 true (.sc (.bin .leq 5) [(T 18), (U8 57)]), b 20 (.pick (T 17) (T 19) (B false))]) (.cond (T 20) (.seq (.reg [b 2 (.mv (I 3))]) .ret) .skip)) (.seq (.seq (.reg [b 21 (.mv (T 0)), b 22 (.sc (.bin .eql 5) [(T 21), (U8 32)]), b 23 (.mv (T 22)), bg 24 23 false (.mv (T 0)), bg 25 23 false (.sc (.bin .eql 5) [(T 24), (U8 10)]), b 26 (.pick (T 23) (B true) (T 25)), b 27 (.mv (T 26)), bg 28 27 false (.mv (T 0)), bg 29 27 false (.sc (.bin .eql 5) [(T 28), (U8 9)]), b 30 (.pick (T 27) (B true) (T 29))]) (.cond (T 30) (.seq (.reg [b 2 (.mv (I 4))]) .ret) .skip)) (.seq (.reg [b 2 (.mv (I 0))]) .ret))))))
theorem k67 : ∃ code, Tryz.prog.funcs[67]? = some Tryz.f67 ∧ Tryz.f67.body = some code ∧ comp Tryz.prog Tryz.f67.ntmps code = some c67 ∧ rvs Tryz.prog Tryz.f67.results.toList = some [(.t 2)] := ⟨_, Tryz.func67, rfl, by kernel_rfl, by kernel_rfl⟩
def c68 : ACode := (.seq (.reg [b 4 (.alloc [(.int .i64 0), (.string ⟨#[]⟩), (.int .i64 0), (.int .i64 0)]), b 5 (.mv (I 0))]) (.seq (.reg [b 12 (.mv (T 0)), b 13 (.mv (T 1)), b 14 (.call 96 [(T 12), (T 13)]), b 11 (.mv (T 14)), b 15 (.ex (T 11) 0), b 16 (.ex (T 11) 1), b 6 (.mv (T 15)), b 7 (.mv (T 16))]) (.seq (.seq (.reg [b 17 (.mv (T 6)), b 18 (.sc (.bin .eql 3) [(T 17), (I 0)])]) (.cond (T 18) (.seq (.reg [b 19 (.mv (T 0)), b 20 (.mv (T 1)), b 21 (.call 97 [(T 19), (T 20)]), b 8 (.mv (T 21))]) (.seq (.seq (.reg [b 22 (.mv (T 8)), b 23 (.sc (.bin .eql 3) [(T 22), (I 0)])]) (.cond (T 23) (.seq (.reg [b 24 (.bld [(.int .i64 0), (.string ⟨#[]⟩), (.int .i64 0), (.int .i64 0)] []), b0 (.st 4 (T 4) (T 24)), b 5 (.mv (I 10))]) .ret) .skip)) (.seq (.reg [b 25 (.mv (T 0)), b 26 (.mv (T 1)), b 27 (.mv (T 1)), b 28 (.mv (T 8)), b 29 (.sc (.bin .add 3) [(T 27), (T 28)]), b 30 (.sc (.sl 9 true true) [(T 25), (T 26), (T 29)]), b 31 (.mv (T 1)), b 32 (.bld [(.int .i64 0), (.string ⟨#[]⟩), (.int .i64 0), (.int .i64 0)] [(0, (1, (I 5))), (1, (1, (T 30))), (3, (1, (T 31)))]), b0 (.st 4 (T 4) (T 32)), b 5 (.mv (I 0))]) .ret))) .skip)) (.seq (.reg [b 33 (.mv (T 0)), b 34 (.mv (T 1)), b 35 (.mv (T 1)), b 36 (.mv (T 6)), b 37 (.sc (.bin .add 3) [(T 35), (T 36)]), b 38 (.sc (.sl 9 true true) [(T 33), (T 34), (T 37)]), b 39 (.mv (T 1)), b 40 (.bld [(.int .i64 0), (.string ⟨#[]⟩), (.int .i64 0), (.int .i64 0)] [(1, (1, (T 38))), (3, (1, (T 39)))]), b 9 (.alloc [(.int .i64 0), (.string ⟨#[]⟩), (.int .i64 0), (.int .i64 0)]), b0 (.st 4 (T 9) (T 40))]) (.seq (.reg [b 41 (.mv (T 0)), b 42 (.mv (T 1)), b 43 (.sc (.ix 9) [(T 41), (T 42)]), b 44 (.call 67 [(T 43)]), b 10 (.mv (T 44))]) (.seq (.seq (.reg [b 45 (.mv (T 10)), b 46 (.sc (.bin .eql 3) [(T 45), (I 3)])]) (.cond (T 46) (.seq (.seq (.reg [b 47 (.mv (T 7))]) (.cond (T 47) (.seq (.reg [b 48 (.bld [(.int .i64 0), (.string ⟨#[]⟩), (.int .i64 0), (.int .i64 0)] []), b0 (.st 4 (T 4) (T 48)), b 5 (.mv (I 10))]) .ret) .skip)) (.seq (.seq (.reg [b 49 (.mv (T 6)), b 50 (.sc (.bin .gtr 3) [(T 49), (I 18)]), b 51 (.mv (T 50)), bg 52 51 false (.mv (T 6)), bg 53 51 false (.sc (.bin .gtr 3) [(T 52), (I 1)]), bg 54 51 false (.mv (T 53)), bg 55 54 true (.mv (T 0)), bg 56 54 true (.mv (T 1)), bg 57 54 true (.sc (.ix 9) [(T 55), (T 56)]), bg 58 54 true (.sc (.bin .eql 5) [(T 57), (U8 48)]), bg 59 51 false (.pick (T 54) (T 58) (B false)), b 60 (.pick (T 51) (B true) (T 59))]) (.cond (T 60) (.seq (.reg [b 61 (.bld [(.int .i64 0), (.string ⟨#[]⟩), (.int .i64 0), (.int .i64 0)] []), b0 (.st 4 (T 4) (T 61)), b 5 (.mv (I 11))]) .ret) .skip)) (.seq (.reg [b 62 (.fa 0 (T 9)), b0 (.st 1 (T 62) (I 3))]) (.seq (.reg [b 63 (.fa 1 (T 9)), b 64 (.ld false 1 (T 63)), b 65 (.call 98 [(T 64)]), b 66 (.fa 2 (T 9)), b0 (.st 1 (T 66) (T 65))]) (.seq (.reg [b 67 (.ld true 4 (T 9)), b0 (.st 4 (T 4) (T 67)), b 5 (.mv (I 0))]) .ret))))) .skip)) (.seq (.seq (.reg [b 68 (.mv (T 6)), b 69 (.sc (.bin .gtr 3) [(T 68), (I 16)])]) (.cond (T 69) (.seq (.reg [b 70 (.bld [(.int .i64 0), (.string ⟨#[]⟩), (.int .i64 0), (.int .i64 0)] []), b0 (.st 4 (T 4) (T 70)), b 5 (.mv (I 11))]) .ret) .skip)) (.seq (.reg [b 71 (.mv (T 10)), b 72 (.fa 0 (T 9)), b0 (.st 1 (T 72) (T 71))]) (.seq (.seq (.reg [b 73 (.fa 1 (T 9)), b 74 (.ld false 1 (T 73)), b 75 (.call 99 [(T 74)])]) (.cond (T 75) (.reg [b 76 (.fa 0 (T 9)), b0 (.st 1 (T 76) (I 4))]) .skip)) (.seq (.reg [b 77 (.ld true 4 (T 9)), b0 (.st 4 (T 4) (T 77)), b 5 (.mv (I 0))]) .ret))))))))))
theorem k68 : ∃ code, Tryz.prog.funcs[68]? = some Tryz.f68 ∧ Tryz.f68.body = some code ∧ comp Tryz.prog Tryz.f68.ntmps code = some c68 ∧ rvs Tryz.prog Tryz.f68.results.toList = some [(.c true 4 4), (.t 5)] := ⟨_, Tryz.func68, rfl, by kernel_rfl, by kernel_rfl⟩
def c69 : ACode := (.seq (.reg [b 4 (.mv (S []))]) (.seq (.seq (.reg [b 5 (.mv (T 1)), b 6 (.mv (T 0)), b 7 (.ln (T 6)), b 8 (.sc (.bin .lss 3) [(T 5), (T 7)]), b 9 (.mv (T 8)), bg 10 9 true (.mv (T 0)), bg 11 9 true (.mv (T 1)), bg 12 9 true (.ia 4 (T 10) (T 11)), bg 13 9 true (.fa 0 (T 12)), bg 14 9 true (.ld false 1 (T 13)), bg 15 9 true (.sc (.bin .geq 3) [(T 14), (I 4)]), b 16 (.pick (T 9) (T 15) (B false))]) (.cond (T 16) (.seq (.reg [b 17 (.mv (T 0)), b 18 (.mv (T 1)), b 19 (.ia 4 (T 17) (T 18)), b 20 (.fa 1 (T 19)), b 21 (.ld false 1 (T 20)), b 4 (.mv (T 21))]) .ret) .skip)) (.seq (.reg [b 4 (.mv (S []))]) .ret)))
theorem k69 : ∃ code, Tryz.prog.funcs[69]? = some Tryz.f69 ∧ Tryz.f69.body = some code ∧ comp Tryz.prog Tryz.f69.ntmps code = some c69 ∧ rvs Tryz.prog Tryz.f69.results.toList = some [(.t 4)] := ⟨_, Tryz.func69, rfl, by kernel_rfl, by kernel_rfl⟩
def c70 : ACode := (.seq (.reg [b 4 (.alloc [(.int .i64 0), (.string ⟨#[]⟩), (.int .i64 0), (.int .i64 0), (.slice none 0 0), (.int .i64 0), (.bool false)])]) (.seq (.seq (.reg [b 6 (.mv (T 0)), b 7 (.mv (T 1)), b 8 (.sc (.bin .add 3) [(T 7), (I 1)]), b 9 (.call 100 [(T 6), (T 8)]), b 10 (.sc (.bin .neq 3) [(T 9), (I 1)])]) (.cond (T 10) (.seq (.reg [b 11 (.mv (T 1)), b 12 (.sc (.bin .add 3) [(T 11), (I 1)]), b 13 (.call 101 [(T 12)]), b0 (.st 7 (T 4) (T 13))]) .ret) .skip)) (.seq (.seq (.reg [b 14 (.mv (T 0)), b 15 (.mv (T 1)), b 16 (.sc (.bin .add 3) [(T 15), (I 2)]), b 17 (.call 69 [(T 14), (T 16)]), b 18 (.sc (.bin .neq 9) [(T 17), (S [46])])]) (.cond (T 18) (.seq (.reg [b 19 (.mv (T 1)), b 20 (.sc (.bin .add 3) [(T 19), (I 2)]), b 21 (.call 101 [(T 20)]), b0 (.st 7 (T 4) (T 21))]) .ret) .skip)) (.seq (.reg [b 22 (.mv (T 0)), b 23 (.mv (T 1)), b 24 (.sc (.bin .add 3) [(T 23), (I 3)]), b 25 (.call 47 [(T 22), (T 24)]), b 5 (.alloc [(.int .i64 0), (.string ⟨#[]⟩), (.int .i64 0), (.int .i64 0), (.slice none 0 0), (.int .i64 0), (.bool false)]), b0 (.st 7 (T 5) (T 25))]) (.seq (.seq (.reg [b 26 (.fa 6 (T 5)), b 27 (.ld false 1 (T 26)), b 28 (.sc (.un .not) [(T 27)])]) (.cond (T 28) (.seq (.reg [b 29 (.ld true 7 (T 5)), b0 (.st 7 (T 4) (T 29))]) .ret) .skip)) (.seq (.reg [a 30 (.mv (T 0)), a 31 (.mv (T 1)), a 32 (.sc (.bin .add 3) [(T 31), (I 1)]), a 33 (.ia 4 (T 30) (T 32)), a 34 (.fa 1 (T 33)), a 35 (.ld false 1 (T 34)), a 36 (.mv (T 0)), a 37 (.mv (T 1)), a 38 (.ia 4 (T 36) (T 37)), a 39 (.fa 3 (T 38)), a 40 (.ld false 1 (T 39)), a 41 (.fa 0 (T 5)), a 42 (.ld true 5 (T 41)), a 43 (.bs 43 5 [(T 42)]), a 44 (.bld [(.int .i64 0), (.string ⟨#[]⟩), (.int .i64 0), (.int .i64 0), (.slice none 0 0)] [(0, (1, (I 2))), (1, (1, (T 35))), (3, (1, (T 40))), (4, (1, (T 43)))]), b 45 (.fa 5 (T 5)), b 46 (.ld false 1 (T 45)), b 47 (.call 102 [(T 44), (T 46)]), b0 (.st 7 (T 4) (T 47))]) .ret))))))
theorem k70 : ∃ code, Tryz.prog.funcs[70]? = some Tryz.f70 ∧ Tryz.f70.body = some code ∧ comp Tryz.prog Tryz.f70.ntmps code = some c70 ∧ rvs Tryz.prog Tryz.f70.results.toList = some [(.c true 7 4)] := ⟨_, Tryz.func70, rfl, by kernel_rfl, by kernel_rfl⟩
def c71 : ACode := (.seq (.reg [b 4 (.alloc [(.int .i64 0), (.string ⟨#[]⟩), (.int .i64 0), (.int .i64 0), (.slice none 0 0), (.int .i64 0), (.bool false)])]) (.seq (.seq (.reg [b 8 (.mv (T 0)), b 9 (.mv (T 1)), b 10 (.sc (.bin .add 3) [(T 9), (I 1)]), b 11 (.call 100 [(T 8), (T 10)]), b 12 (.sc (.bin .neq 3) [(T 11), (I 1)])]) (.cond (T 12) (.seq (.reg [b 13 (.mv (T 1)), b 14 (.sc (.bin .add 3) [(T 13), (I 1)]), b 15 (.call 101 [(T 14)]), b0 (.st 7 (T 4) (T 15))]) .ret) .skip)) (.seq (.seq (.reg [b 16 (.mv (T 0)), b 17 (.mv (T 1)), b 18 (.sc (.bin .add 3) [(T 17), (I 2)]), b 19 (.call 69 [(T 16), (T 18)]), b 20 (.sc (.bin .neq 9) [(T 19), (S [61])])]) (.cond (T 20) (.seq (.reg [b 21 (.mv (T 1)), b 22 (.sc (.bin .add 3) [(T 21), (I 2)]), b 23 (.call 101 [(T 22)]), b0 (.st 7 (T 4) (T 23))]) .ret) .skip)) (.seq (.reg [b 24 (.mv (T 0)), b 25 (.mv (T 1)), b 26 (.sc (.bin .add 3) [(T 25), (I 3)]), b 27 (.call 47 [(T 24), (T 26)]), b 5 (.alloc [(.int .i64 0), (.string ⟨#[]⟩), (.int .i64 0), (.int .i64 0), (.slice none 0 0), (.int .i64 0), (.bool false)]), b0 (.st 7 (T 5) (T 27))]) (.seq (.seq (.reg [b 28 (.fa 6 (T 5)), b 29 (.ld false 1 (T 28)), b 30 (.sc (.un .not) [(T 29)])]) (.cond (T 30) (.seq (.reg [b 31 (.ld true 7 (T 5)), b0 (.st 7 (T 4) (T 31))]) .ret) .skip)) (.seq (.seq (.reg [b 32 (.mv (T 0)), b 33 (.fa 5 (T 5)), b 34 (.ld false 1 (T 33)), b 35 (.call 69 [(T 32), (T 34)]), b 36 (.sc (.bin .neq 9) [(T 35), (S [105, 110])])]) (.cond (T 36) (.seq (.reg [b 37 (.fa 5 (T 5)), b 38 (.ld false 1 (T 37)), b 39 (.call 101 [(T 38)]), b0 (.st 7 (T 4) (T 39))]) .ret) .skip)) (.seq (.reg [b 40 (.mv (T 0)), b 41 (.fa 5 (T 5)), b 42 (.ld false 1 (T 41)), b 43 (.sc (.bin .add 3) [(T 42), (I 1)]), b 44 (.call 47 [(T 40), (T 43)]), b 6 (.alloc [(.int .i64 0), (.string ⟨#[]⟩), (.int .i64 0), (.int .i64 0), (.slice none 0 0), (.int .i64 0), (.bool false)]), b0 (.st 7 (T 6) (T 44))]) (.seq (.seq (.reg [b 45 (.fa 6 (T 6)), b 46 (.ld false 1 (T 45)), b 47 (.sc (.un .not) [(T 46)])]) (.cond (T 47) (.seq (.reg [b 48 (.ld true 7 (T 6)), b0 (.st 7 (T 4) (T 48))]) .ret) .skip)) (.seq (.reg [a 49 (.mv (T 0)), a 50 (.mv (T 1)), a 51 (.sc (.bin .add 3) [(T 50), (I 1)]), a 52 (.ia 4 (T 49) (T 51)), a 53 (.fa 1 (T 52)), a 54 (.ld false 1 (T 53)), a 55 (.mv (T 0)), a 56 (.mv (T 1)), a 57 (.ia 4 (T 55) (T 56)), a 58 (.fa 3 (T 57)), a 59 (.ld false 1 (T 58)), a 60 (.fa 0 (T 5)), a 61 (.ld true 5 (T 60)), a 62 (.fa 0 (T 6)), a 63 (.ld true 5 (T 62)), a 64 (.bs 43 5 [(T 61), (T 63)]), a 65 (.bld [(.int .i64 0), (.string ⟨#[]⟩), (.int .i64 0), (.int .i64 0), (.slice none 0 0)] [(0, (1, (I 4))), (1, (1, (T 54))), (3, (1, (T 59))), (4, (1, (T 64)))]), b 7 (.alloc [(.int .i64 0), (.string ⟨#[]⟩), (.int .i64 0), (.int .i64 0), (.slice none 0 0)]), b0 (.st 5 (T 7) (T 65))]) (.seq (.seq (.reg [b 66 (.mv (T 0)), b 67 (.mv (T 1)), b 68 (.ia 4 (T 66) (T 67)), b 69 (.fa 1 (T 68)), b 70 (.ld false 1 (T 69)), b 71 (.sc (.bin .eql 9) [(T 70), (S [108, 101, 116, 114, 101, 99])])]) (.cond (T 71) (.reg [b 72 (.fa 0 (T 7)), b0 (.st 1 (T 72) (I 5))]) .skip)) (.seq (.reg [b 73 (.ld true 5 (T 7)), b 74 (.fa 5 (T 6)), b 75 (.ld false 1 (T 74)), b 76 (.call 102 [(T 73), (T 75)]), b0 (.st 7 (T 4) (T 76))]) .ret)))))))))))
theorem k71 : ∃ code, Tryz.prog.funcs[71]? = some Tryz.f71 ∧ Tryz.f71.body = some code ∧ comp Tryz.prog Tryz.f71.ntmps code = some c71 ∧ rvs Tryz.prog Tryz.f71.results.toList = some [(.c true 7 4)] := ⟨_, Tryz.func71, rfl, by kernel_rfl, by kernel_rfl⟩
def c72 : ACode := (.seq (.reg [b 4 (.alloc [(.int .i64 0), (.string ⟨#[]⟩), (.int .i64 0), (.int .i64 0), (.slice none 0 0), (.int .i64 0), (.bool false)])]) (.seq (.reg [b 9 (.mv (T 0)), b 10 (.mv (T 1)), b 11 (.sc (.bin .add 3) [(T 10), (I 1)]), b 12 (.call 47 [(T 9), (T 11)]), b 5 (.alloc [(.int .i64 0), (.string ⟨#[]⟩), (.int .i64 0), (.int .i64 0), (.slice none 0 0), (.int .i64 0), (.bool false)]), b0 (.st 7 (T 5) (T 12))]) (.seq (.seq (.reg [b 13 (.fa 6 (T 5)), b 14 (.ld false 1 (T 13)), b 15 (.sc (.un .not) [(T 14)])]) (.cond (T 15) (.seq (.reg [b 16 (.ld true 7 (T 5)), b0 (.st 7 (T 4) (T 16))]) .ret) .skip)) (.seq (.seq (.reg [b 17 (.mv (T 0)), b 18 (.fa 5 (T 5)), b 19 (.ld false 1 (T 18)), b 20 (.call 69 [(T 17), (T 19)]), b 21 (.sc (.bin .neq 9) [(T 20), (S [111, 102])])]) (.cond (T 21) (.seq (.reg [b 22 (.fa 5 (T 5)), b 23 (.ld false 1 (T 22)), b 24 (.call 101 [(T 23)]), b0 (.st 7 (T 4) (T 24))]) .ret) .skip)) (.seq (.seq (.reg [b 25 (.mv (T 0)), b 26 (.fa 5 (T 5)), b 27 (.ld false 1 (T 26)), b 28 (.sc (.bin .add 3) [(T 27), (I 1)]), b 29 (.call 69 [(T 25), (T 28)]), b 30 (.sc (.bin .neq 9) [(T 29), (S [123])])]) (.cond (T 30) (.seq (.reg [b 31 (.fa 5 (T 5)), b 32 (.ld false 1 (T 31)), b 33 (.sc (.bin .add 3) [(T 32), (I 1)]), b 34 (.call 101 [(T 33)]), b0 (.st 7 (T 4) (T 34))]) .ret) .skip)) (.seq (.reg [a 35 (.mv (T 0)), a 36 (.mv (T 1)), a 37 (.ia 4 (T 35) (T 36)), a 38 (.fa 3 (T 37)), a 39 (.ld false 1 (T 38)), a 40 (.fa 0 (T 5)), a 41 (.ld true 5 (T 40)), a 42 (.bs 43 5 [(T 41)]), a 43 (.bld [(.int .i64 0), (.string ⟨#[]⟩), (.int .i64 0), (.int .i64 0), (.slice none 0 0)] [(0, (1, (I 7))), (3, (1, (T 39))), (4, (1, (T 42)))]), b 6 (.alloc [(.int .i64 0), (.string ⟨#[]⟩), (.int .i64 0), (.int .i64 0), (.slice none 0 0)]), b0 (.st 5 (T 6) (T 43))]) (.seq (.reg [b 44 (.fa 5 (T 5)), b 45 (.ld false 1 (T 44)), b 46 (.sc (.bin .add 3) [(T 45), (I 2)]), b 7 (.mv (T 46))]) (.block 0 (.loop (.block 1 (.seq (.reg [b 47 (.mv (T 0)), b 48 (.mv (T 7)), b 49 (.call 103 [(T 47), (T 48)]), b 8 (.alloc [(.int .i64 0), (.string ⟨#[]⟩), (.int .i64 0), (.int .i64 0), (.slice none 0 0), (.int .i64 0), (.bool false)]), b0 (.st 7 (T 8) (T 49))]) (.seq (.seq (.reg [b 50 (.fa 6 (T 8)), b 51 (.ld false 1 (T 50)), b 52 (.sc (.un .not) [(T 51)])]) (.cond (T 52) (.seq (.reg [b 53 (.ld true 7 (T 8)), b0 (.st 7 (T 4) (T 53))]) .ret) .skip)) (.seq (.reg [b 54 (.fa 4 (T 6)), b 55 (.ld false 1 (T 54)), b 56 (.fa 0 (T 8)), b 57 (.ld true 5 (T 56)), b 58 (.bs 43 5 [(T 57)]), b 59 (.ap 43 5 64 (T 55) (T 58)), b 60 (.fa 4 (T 6)), b0 (.st 1 (T 60) (T 59))]) (.seq (.reg [b 61 (.fa 5 (T 8)), b 62 (.ld false 1 (T 61)), b 7 (.mv (T 62))]) (.seq (.seq (.reg [b 63 (.mv (T 0)), b 64 (.mv (T 7)), b 65 (.call 69 [(T 63), (T 64)]), b 66 (.sc (.bin .eql 9) [(T 65), (S [125])])]) (.cond (T 66) (.seq (.reg [b 67 (.ld true 5 (T 6)), b 68 (.mv (T 7)), b 69 (.sc (.bin .add 3) [(T 68), (I 1)]), b 70 (.call 102 [(T 67), (T 69)]), b0 (.st 7 (T 4) (T 70))]) .ret) .skip)) (.seq (.seq (.reg [b 71 (.mv (T 0)), b 72 (.mv (T 7)), b 73 (.call 69 [(T 71), (T 72)]), b 74 (.sc (.bin .neq 9) [(T 73), (S [124])]), b 75 (.mv (T 74)), bg 76 75 false (.fa 4 (T 6)), bg 77 75 false (.ld false 1 (T 76)), bg 78 75 false (.ln (T 77)), bg 79 75 false (.sc (.bin .eql 3) [(T 78), (I 9)]), b 80 (.pick (T 75) (B true) (T 79))]) (.cond (T 80) (.seq (.reg [b 81 (.mv (T 7)), b 82 (.call 101 [(T 81)]), b0 (.st 7 (T 4) (T 82))]) .ret) .skip)) (.reg [b 83 (.mv (T 7)), b 84 (.sc (.bin .add 3) [(T 83), (I 1)]), b 7 (.mv (T 84))])))))))))))))))))
theorem k72 : ∃ code, Tryz.prog.funcs[72]? = some Tryz.f72 ∧ Tryz.f72.body = some code ∧ comp Tryz.prog Tryz.f72.ntmps code = some c72 ∧ rvs Tryz.prog Tryz.f72.results.toList = some [(.c true 7 4)] := ⟨_, Tryz.func72, rfl, by kernel_rfl, by kernel_rfl⟩
def c73 : ACode := (.seq (.reg [b 6 (.alloc [(.int .i64 0), (.string ⟨#[]⟩), (.int .i64 0), (.int .i64 0), (.slice none 0 0), (.int .i64 0), (.bool false)])]) (.seq (.seq (.reg [b 10 (.mv (T 2)), b 11 (.sc (.bin .eql 3) [(T 10), (I 3)])]) (.cond (T 11) (.seq (.reg [b 12 (.mv (T 0)), b 13 (.mv (T 1)), b 14 (.call 104 [(T 12), (T 13)]), b0 (.st 7 (T 6) (T 14))]) .ret) .skip)) (.seq (.reg [b 15 (.mv (T 0)), b 16 (.mv (T 1)), b 17 (.mv (T 2)), b 18 (.sc (.bin .add 3) [(T 17), (I 1)]), b 19 (.call 73 [(T 15), (T 16), (T 18)]), b 7 (.alloc [(.int .i64 0), (.string ⟨#[]⟩), (.int .i64 0), (.int .i64 0), (.slice none 0 0), (.int .i64 0), (.bool false)]), b0 (.st 7 (T 7) (T 19))]) (.seq (.seq (.reg [b 8 (.mv (I 0))]) (.block 0 (.loop (.seq (.seq (.reg [b 20 (.fa 6 (T 7)), b 21 (.ld false 1 (T 20)), b 22 (.mv (T 21)), bg 23 22 true (.mv (T 0)), bg 24 22 true (.fa 5 (T 7)), bg 25 22 true (.ld false 1 (T 24)), bg 26 22 true (.mv (T 2)), bg 27 22 true (.call 105 [(T 23), (T 25), (T 26)]), b 28 (.pick (T 22) (T 27) (B false)), b 29 (.mv (T 28)), bg 30 29 true (.mv (T 2)), bg 31 29 true (.sc (.bin .gtr 3) [(T 30), (I 0)]), bg 32 29 true (.mv (T 31)), bg 33 32 false (.mv (T 8)), bg 34 32 false (.sc (.bin .lss 3) [(T 33), (I 1)]), bg 35 29 true (.pick (T 32) (B true) (T 34)), b 36 (.pick (T 29) (T 35) (B false))]) (.cond (T 36) .skip (.exit 0))) (.seq (.block 1 (.seq (.reg [b 39 (.mv (T 0)), b 40 (.fa 5 (T 7)), b 41 (.ld false 1 (T 40)), b 42 (.sc (.bin .add 3) [(T 41), (I 1)]), b 43 (.mv (T 2)), b 44 (.sc (.bin .add 3) [(T 43), (I 1)]), b 45 (.call 73 [(T 39), (T 42), (T 44)]), b 9 (.alloc [(.int .i64 0), (.string ⟨#[]⟩), (.int .i64 0), (.int .i64 0), (.slice none 0 0), (.int .i64 0), (.bool false)]), b0 (.st 7 (T 9) (T 45))]) (.seq (.seq (.reg [b 46 (.fa 6 (T 9)), b 47 (.ld false 1 (T 46)), b 48 (.sc (.un .not) [(T 47)])]) (.cond (T 48) (.seq (.reg [b 49 (.ld true 7 (T 9)), b0 (.st 7 (T 6) (T 49))]) .ret) .skip)) (.reg [a 50 (.mv (T 0)), a 51 (.fa 5 (T 7)), a 52 (.ld false 1 (T 51)), a 53 (.ia 4 (T 50) (T 52)), a 54 (.fa 1 (T 53)), a 55 (.ld false 1 (T 54)), a 56 (.fa 0 (T 7)), a 57 (.fa 3 (T 56)), a 58 (.ld false 1 (T 57)), a 59 (.fa 0 (T 7)), a 60 (.ld true 5 (T 59)), a 61 (.fa 0 (T 9)), a 62 (.ld true 5 (T 61)), a 63 (.bs 43 5 [(T 60), (T 62)]), a 64 (.bld [(.int .i64 0), (.string ⟨#[]⟩), (.int .i64 0), (.int .i64 0), (.slice none 0 0)] [(0, (1, (I 10))), (1, (1, (T 55))), (3, (1, (T 58))), (4, (1, (T 63)))]), b 65 (.fa 5 (T 9)), b 66 (.ld false 1 (T 65)), b 67 (.call 102 [(T 64), (T 66)]), b0 (.st 7 (T 7) (T 67))])))) (.reg [b 37 (.mv (T 8)), b 38 (.sc (.bin .add 3) [(T 37), (I 1)]), b 8 (.mv (T 38))])))))) (.seq (.reg [b 68 (.ld true 7 (T 7)), b0 (.st 7 (T 6) (T 68))]) .ret)))))
theorem k73 : ∃ code, Tryz.prog.funcs[73]? = some Tryz.f73 ∧ Tryz.f73.body = some code ∧ comp Tryz.prog Tryz.f73.ntmps code = some c73 ∧ rvs Tryz.prog Tryz.f73.results.toList = some [(.c true 7 6)] := ⟨_, Tryz.func73, rfl, by kernel_rfl, by kernel_rfl⟩
def c74 : ACode := (.seq (.reg [b 1 (.box (T 0)), b 2 (.mv (B false))]) (.seq (.reg [b 3 (.ld true 5 (T 1)), b 4 (.call 106 [(T 3), (B false)]), b 2 (.mv (T 4))]) .ret))
theorem k74 : ∃ code, Tryz.prog.funcs[74]? = some Tryz.f74 ∧ Tryz.f74.body = some code ∧ comp Tryz.prog Tryz.f74.ntmps code = some c74 ∧ rvs Tryz.prog Tryz.f74.results.toList = some [(.t 2)] := ⟨_, Tryz.func74, rfl, by kernel_rfl, by kernel_rfl⟩
def c75 : ACode := (.seq (.reg [b 4 (.box (T 0)), b 8 (.mv (I 0)), b 9 (.mv (I 0))]) (.seq (.seq (.reg [b 14 (.fa 0 (T 4)), b 15 (.ld false 1 (T 14)), b 16 (.sc (.bin .eql 3) [(T 15), (I 1)]), b 17 (.mv (T 16)), bg 18 17 true (.mv (T 1)), bg 19 17 true (.fa 1 (T 4)), bg 20 17 true (.ld false 1 (T 19)), bg 21 17 true (.call 107 [(T 18), (T 20)]), bg 22 17 true (.sc (.un .not) [(T 21)]), b 23 (.pick (T 17) (T 22) (B false))]) (.cond (T 23) (.seq (.reg [b 24 (.fa 3 (T 4)), b 25 (.ld false 1 (T 24)), b 8 (.mv (T 25)), b 9 (.mv (I 50))]) .ret) .skip)) (.seq (.seq (.reg [b 26 (.ld true 5 (T 4)), b 27 (.call 108 [(T 26)]), b 28 (.sc (.bin .geq 3) [(T 27), (I 0)]), b 29 (.mv (T 28)), ag 30 29 true (.mv (T 3)), ag 31 29 true (.fa 1 (T 4)), ag 32 29 true (.ld false 1 (T 31)), ag 33 29 true (.call 109 [(T 30), (T 32)]), bg 34 29 true (.ld true 5 (T 4)), bg 35 29 true (.call 108 [(T 34)]), bg 36 29 true (.sc (.bin .neq 3) [(T 33), (T 35)]), b 37 (.pick (T 29) (T 36) (B false))]) (.cond (T 37) (.seq (.reg [b 38 (.fa 3 (T 4)), b 39 (.ld false 1 (T 38)), b 8 (.mv (T 39)), b 9 (.mv (I 51))]) .ret) .skip)) (.seq (.seq (.reg [b 40 (.fa 0 (T 4)), b 41 (.ld false 1 (T 40)), b 42 (.sc (.bin .eql 3) [(T 41), (I 8)]), b 43 (.mv (T 42)), bg 44 43 true (.ld true 5 (T 4)), bg 45 43 true (.call 110 [(T 44)]), bg 46 43 true (.mv (T 45)), bg 47 46 false (.mv (T 2)), bg 48 46 false (.fa 1 (T 4)), bg 49 46 false (.ld false 1 (T 48)), bg 50 46 false (.call 107 [(T 47), (T 49)]), bg 51 43 true (.pick (T 46) (B true) (T 50)), b 52 (.pick (T 43) (T 51) (B false))]) (.cond (T 52) (.seq (.reg [b 53 (.fa 3 (T 4)), b 54 (.ld false 1 (T 53)), b 8 (.mv (T 54)), b 9 (.mv (I 52))]) .ret) .skip)) (.seq (.reg [b 55 (.bs 9 1 []), b 10 (.mv (T 55))]) (.seq (.seq (.reg [b 56 (.ld true 5 (T 4)), b 57 (.call 111 [(T 56)]), b 11 (.mv (T 57))]) (.block 0 (.loop (.seq (.seq (.reg [b 58 (.mv (T 11)), b 59 (.fa 4 (T 4)), b 60 (.ld false 1 (T 59)), b 61 (.ln (T 60)), b 62 (.sc (.bin .lss 3) [(T 58), (T 61)])]) (.cond (T 62) .skip (.exit 0))) (.seq (.block 1 (.seq (.reg [a 66 (.fa 4 (T 4)), a 67 (.ld false 1 (T 66)), a 68 (.mv (T 11)), a 69 (.ia 5 (T 67) (T 68)), a 70 (.ld true 5 (T 69)), a 71 (.ld true 5 (T 4)), a 72 (.mv (T 11)), a 73 (.mv (T 1)), a 74 (.call 112 [(T 71), (T 72), (T 73)]), a 75 (.mv (T 10)), b 76 (.mv (T 3)), b 77 (.call 75 [(T 70), (T 74), (T 75), (T 76)]), b 65 (.mv (T 77)), a 78 (.ex (T 65) 0), a 79 (.ex (T 65) 1), b 12 (.mv (T 78)), b 13 (.mv (T 79))]) (.seq (.seq (.reg [b 80 (.mv (T 13)), b 81 (.sc (.bin .neq 30) [(T 80), (I 0)])]) (.cond (T 81) (.seq (.reg [b 82 (.mv (T 12)), b 83 (.mv (T 13)), b 8 (.mv (T 82)), b 9 (.mv (T 83))]) .ret) .skip)) (.seq (.reg [b 84 (.fa 0 (T 4)), b 85 (.ld false 1 (T 84)), b 86 (.sc (.bin .eql 3) [(T 85), (I 7)]), b 87 (.mv (T 86)), bg 88 87 true (.mv (T 11)), bg 89 87 true (.sc (.bin .gtr 3) [(T 88), (I 0)]), b 90 (.pick (T 87) (T 89) (B false))]) (.cond (T 90) (.reg [b 91 (.mv (T 10)), b 92 (.fa 4 (T 4)), b 93 (.ld false 1 (T 92)), b 94 (.mv (T 11)), b 95 (.ia 5 (T 93) (T 94)), b 96 (.fa 1 (T 95)), b 97 (.ld false 1 (T 96)), b 98 (.bs 9 1 [(T 97)]), b 99 (.ap 9 1 16 (T 91) (T 98)), b 10 (.mv (T 99))]) .skip))))) (.reg [b 63 (.mv (T 11)), b 64 (.sc (.bin .add 3) [(T 63), (I 1)]), b 11 (.mv (T 64))])))))) (.seq (.reg [b 8 (.mv (I 0)), b 9 (.mv (I 0))]) .ret)))))))
theorem k75 : ∃ code, Tryz.prog.funcs[75]? = some Tryz.f75 ∧ Tryz.f75.body = some code ∧ comp Tryz.prog Tryz.f75.ntmps code = some c75 ∧ rvs Tryz.prog Tryz.f75.results.toList = some [(.t 8), (.t 9)] := ⟨_, Tryz.func75, rfl, by kernel_rfl, by kernel_rfl⟩
def c76 : ACode := (.seq (.reg [b 1 (.box (T 0)), b 2 (.mv NilS)]) (.seq (.seq (.reg [b 3 (.ld true 5 (T 1)), b 4 (.call 74 [(T 3)]), b 5 (.sc (.un .not) [(T 4)])]) (.cond (T 5) (.seq (.reg [b 2 (.mv NilS)]) .ret) .skip)) (.seq (.reg [b 6 (.ld true 5 (T 1)), b 7 (.bld [(.string ⟨#[]⟩), (.int .i64 0)] [(0, (1, (S [84, 114, 117, 101])))]), b 8 (.bld [(.string ⟨#[]⟩), (.int .i64 0)] [(0, (1, (S [70, 97, 108, 115, 101])))]), b 9 (.bs 113 2 [(T 7), (T 8)]), b 10 (.call 113 [(T 6), (T 9)]), b 2 (.mv (T 10))]) .ret)))
theorem k76 : ∃ code, Tryz.prog.funcs[76]? = some Tryz.f76 ∧ Tryz.f76.body = some code ∧ comp Tryz.prog Tryz.f76.ntmps code = some c76 ∧ rvs Tryz.prog Tryz.f76.results.toList = some [(.t 2)] := ⟨_, Tryz.func76, rfl, by kernel_rfl, by kernel_rfl⟩
def c77 : ACode := (.seq (.reg [b 4 (.mv (I 0))]) (.seq (.seq (.reg [b 6 (.mv (T 0)), b 7 (.ln (T 6)), b 8 (.sc (.bin .sub 3) [(T 7), (I 1)]), b 5 (.mv (T 8))]) (.block 0 (.loop (.seq (.seq (.reg [b 9 (.mv (T 5)), b 10 (.sc (.bin .geq 3) [(T 9), (I 0)])]) (.cond (T 10) .skip (.exit 0))) (.seq (.block 1 (.seq (.reg [b 13 (.mv (T 0)), b 14 (.mv (T 5)), b 15 (.ia 1 (T 13) (T 14)), b 16 (.ld false 1 (T 15)), b 17 (.mv (T 1)), b 18 (.sc (.bin .eql 9) [(T 16), (T 17)])]) (.cond (T 18) (.seq (.reg [b 19 (.mv (T 0)), b 20 (.ln (T 19)), b 21 (.sc (.bin .sub 3) [(T 20), (I 1)]), b 22 (.mv (T 5)), b 23 (.sc (.bin .sub 3) [(T 21), (T 22)]), b 4 (.mv (T 23))]) .ret) .skip))) (.reg [b 11 (.mv (T 5)), b 12 (.sc (.bin .sub 3) [(T 11), (I 1)]), b 5 (.mv (T 12))])))))) (.seq (.reg [b 4 (.mv (I 0))]) .ret)))
theorem k77 : ∃ code, Tryz.prog.funcs[77]? = some Tryz.f77 ∧ Tryz.f77.body = some code ∧ comp Tryz.prog Tryz.f77.ntmps code = some c77 ∧ rvs Tryz.prog Tryz.f77.results.toList = some [(.t 4)] := ⟨_, Tryz.func77, rfl, by kernel_rfl, by kernel_rfl⟩
def c78 : ACode := (.seq (.reg [b 1 (.box (T 0)), b 2 (.alloc [(.int .i64 0), (.int .i64 0), (.string ⟨#[]⟩), (.slice none 0 0)])]) (.seq (.reg [b 3 (.ld true 4 (T 1)), b 4 (.bs 24 4 [(T 3)]), b 5 (.bld [(.int .i64 0), (.int .i64 0), (.string ⟨#[]⟩), (.slice none 0 0)] [(0, (1, (I 2))), (3, (1, (T 4)))]), b0 (.st 4 (T 2) (T 5))]) .ret))
theorem k78 : ∃ code, Tryz.prog.funcs[78]? = some Tryz.f78 ∧ Tryz.f78.body = some code ∧ comp Tryz.prog Tryz.f78.ntmps code = some c78 ∧ rvs Tryz.prog Tryz.f78.results.toList = some [(.c true 4 2)] := ⟨_, Tryz.func78, rfl, by kernel_rfl, by kernel_rfl⟩
def c79 : ACode := (.seq (.reg [b 4 (.mv NilS)]) (.seq (.reg [b 5 (.bs 9 1 []), b 6 (.mv (T 0)), b 7 (.ap 9 1 16 (T 5) (T 6)), b 8 (.mv (T 1)), b 9 (.bs 9 1 [(T 8)]), b 10 (.ap 9 1 16 (T 7) (T 9)), b 4 (.mv (T 10))]) .ret))
theorem k79 : ∃ code, Tryz.prog.funcs[79]? = some Tryz.f79 ∧ Tryz.f79.body = some code ∧ comp Tryz.prog Tryz.f79.ntmps code = some c79 ∧ rvs Tryz.prog Tryz.f79.results.toList = some [(.t 4)] := ⟨_, Tryz.func79, rfl, by kernel_rfl, by kernel_rfl⟩
def c80 : ACode := (.seq (.reg [b 4 (.box (T 1)), b 5 (.box (T 2)), b 6 (.alloc [(.int .i64 0), (.int .i64 0), (.string ⟨#[]⟩), (.slice none 0 0)])]) (.seq (.reg [b 7 (.mv (T 0)), b 8 (.ld true 4 (T 4)), b 9 (.ld true 4 (T 5)), b 10 (.bs 24 4 [(T 8), (T 9)]), b 11 (.bld [(.int .i64 0), (.int .i64 0), (.string ⟨#[]⟩), (.slice none 0 0)] [(0, (1, (T 7))), (3, (1, (T 10)))]), b0 (.st 4 (T 6) (T 11))]) .ret))
theorem k80 : ∃ code, Tryz.prog.funcs[80]? = some Tryz.f80 ∧ Tryz.f80.body = some code ∧ comp Tryz.prog Tryz.f80.ntmps code = some c80 ∧ rvs Tryz.prog Tryz.f80.results.toList = some [(.c true 4 6)] := ⟨_, Tryz.func80, rfl, by kernel_rfl, by kernel_rfl⟩
def c81 : ACode := (.seq (.reg [b 0 (.alloc [(.int .i64 0), (.int .i64 0), (.string ⟨#[]⟩), (.slice none 0 0)])]) (.seq (.reg [b 4 (.bld [(.int .i64 0), (.int .i64 0), (.string ⟨#[]⟩), (.slice none 0 0)] [(0, (1, (I 1)))]), b 1 (.alloc [(.int .i64 0), (.int .i64 0), (.string ⟨#[]⟩), (.slice none 0 0)]), b0 (.st 4 (T 1) (T 4))]) (.seq (.reg [b 5 (.bld [(.int .i64 0), (.int .i64 0), (.string ⟨#[]⟩), (.slice none 0 0)] [(0, (1, (I 1))), (1, (1, (I 1)))]), b 2 (.alloc [(.int .i64 0), (.int .i64 0), (.string ⟨#[]⟩), (.slice none 0 0)]), b0 (.st 4 (T 2) (T 5))]) (.seq (.reg [a 6 (.ld true 4 (T 2)), a 7 (.ld true 4 (T 1)), a 8 (.ld true 4 (T 1)), a 9 (.call 80 [(I 3), (T 7), (T 8)]), a 10 (.call 80 [(I 3), (T 6), (T 9)]), a 11 (.call 78 [(T 10)]), b 3 (.alloc [(.int .i64 0), (.int .i64 0), (.string ⟨#[]⟩), (.slice none 0 0)]), b0 (.st 4 (T 3) (T 11))]) (.seq (.reg [b 12 (.ld true 4 (T 3)), b 13 (.ld true 4 (T 3)), b 14 (.call 80 [(I 3), (T 12), (T 13)]), b 15 (.call 78 [(T 14)]), b0 (.st 4 (T 0) (T 15))]) .ret)))))
theorem k81 : ∃ code, Tryz.prog.funcs[81]? = some Tryz.f81 ∧ Tryz.f81.body = some code ∧ comp Tryz.prog Tryz.f81.ntmps code = some c81 ∧ rvs Tryz.prog Tryz.f81.results.toList = some [(.c true 4 0)] := ⟨_, Tryz.func81, rfl, by kernel_rfl, by kernel_rfl⟩
def c82 : ACode := (.seq (.reg [b 4 (.mv (I 0))]) (.seq (.seq (.reg [b 6 (.mv (T 0)), b 7 (.ln (T 6)), b 8 (.mv (I 0))]) (.block 0 (.loop (.seq (.reg [b 9 (.sc (.bin .lss 3) [(T 8), (T 7)])]) (.seq (.cond (T 9) .skip (.exit 0)) (.seq (.block 1 (.seq (.reg [b 10 (.mv (T 8)), b 5 (.mv (T 10))]) (.seq (.reg [b 11 (.mv (T 1)), b 12 (.mv (T 0)), b 13 (.mv (T 5)), b 14 (.ia 1 (T 12) (T 13)), b 15 (.ld false 1 (T 14)), b 16 (.sc (.bin .eql 9) [(T 11), (T 15)])]) (.cond (T 16) (.seq (.reg [b 17 (.mv (T 5)), b 4 (.mv (T 17))]) .ret) .skip)))) (.reg [b 18 (.sc (.bin .add 3) [(T 8), (I 1)]), b 8 (.mv (T 18))]))))))) (.seq (.reg [b 4 (.mv (I (-1)))]) .ret)))
theorem k82 : ∃ code, Tryz.prog.funcs[82]? = some Tryz.f82 ∧ Tryz.f82.body = some code ∧ comp Tryz.prog Tryz.f82.ntmps code = some c82 ∧ rvs Tryz.prog Tryz.f82.results.toList = some [(.t 4)] := ⟨_, Tryz.func82, rfl, by kernel_rfl, by kernel_rfl⟩
def c96 : ACode := (.seq (.reg [b 4 (.mv (I 0)), b 5 (.mv (B false))]) (.seq (.reg [b 6 (.mv (I 0)), b 7 (.mv (B false))]) (.seq (.block 0 (.loop (.seq (.seq (.reg [b 9 (.mv (T 1)), b 10 (.mv (T 6)), b 11 (.sc (.bin .add 3) [(T 9), (T 10)]), b 12 (.mv (T 0)), b 13 (.sc (.bi .len [9] 3) [(T 12)]), b 14 (.sc (.bin .lss 3) [(T 11), (T 13)])]) (.cond (T 14) .skip (.exit 0))) (.block 1 (.seq (.reg [b 15 (.mv (T 0)), b 16 (.mv (T 1)), b 17 (.mv (T 6)), b 18 (.sc (.bin .add 3) [(T 16), (T 17)]), b 19 (.sc (.ix 9) [(T 15), (T 18)]), b 20 (.call 67 [(T 19)]), b 8 (.mv (T 20))]) (.seq (.seq (.reg [b 21 (.mv (T 8)), b 22 (.sc (.bin .lss 3) [(T 21), (I 1)]), b 23 (.mv (T 22)), bg 24 23 false (.mv (T 8)), bg 25 23 false (.sc (.bin .gtr 3) [(T 24), (I 3)]), b 26 (.pick (T 23) (B true) (T 25))]) (.cond (T 26) (.seq (.reg [b 27 (.mv (T 6)), b 28 (.mv (T 7)), b 4 (.mv (T 27)), b 5 (.mv (T 28))]) .ret) .skip)) (.seq (.reg [b 29 (.mv (T 7)), b 30 (.mv (T 29)), bg 31 30 false (.mv (T 8)), bg 32 30 false (.sc (.bin .lss 3) [(T 31), (I 3)]), b 33 (.pick (T 30) (B true) (T 32)), b 7 (.mv (T 33))]) (.reg [b 34 (.mv (T 6)), b 35 (.sc (.bin .add 3) [(T 34), (I 1)]), b 6 (.mv (T 35))])))))))) (.seq (.reg [b 36 (.mv (T 6)), b 37 (.mv (T 7)), b 4 (.mv (T 36)), b 5 (.mv (T 37))]) .ret))))
theorem k96 : ∃ code, Tryz.prog.funcs[96]? = some Tryz.f96 ∧ Tryz.f96.body = some code ∧ comp Tryz.prog Tryz.f96.ntmps code = some c96 ∧ rvs Tryz.prog Tryz.f96.results.toList = some [(.t 4), (.t 5)] := ⟨_, Tryz.func96, rfl, by kernel_rfl, by kernel_rfl⟩
def c97 : ACode := (.seq (.reg [b 4 (.mv (I 0))]) (.seq (.seq (.reg [b 6 (.mv (T 1)), b 7 (.sc (.bin .add 3) [(T 6), (I 1)]), b 8 (.mv (T 0)), b 9 (.sc (.bi .len [9] 3) [(T 8)]), b 10 (.sc (.bin .lss 3) [(T 7), (T 9)]), b 11 (.mv (T 10)), bg 12 11 true (.mv (T 0)), bg 13 11 true (.mv (T 1)), bg 14 11 true (.mv (T 1)), bg 15 11 true (.sc (.bin .add 3) [(T 14), (I 2)]), bg 16 11 true (.sc (.sl 9 true true) [(T 12), (T 13), (T 15)]), bg 17 11 true (.sc (.bin .eql 9) [(T 16), (S [45, 62])]), bg 18 11 true (.mv (T 17)), bg 19 18 false (.mv (T 0)), bg 20 18 false (.mv (T 1)), bg 21 18 false (.mv (T 1)), bg 22 18 false (.sc (.bin .add 3) [(T 21), (I 2)]), bg 23 18 false (.sc (.sl 9 true true) [(T 19), (T 20), (T 22)]), bg 24 18 false (.sc (.bin .eql 9) [(T 23), (S [61, 61])]), bg 25 11 true (.pick (T 18) (B true) (T 24)), b 26 (.pick (T 11) (T 25) (B false))]) (.cond (T 26) (.seq (.reg [b 4 (.mv (I 2))]) .ret) .skip)) (.seq (.seq (.reg [b 5 (.mv (I 0))]) (.block 0 (.loop (.seq (.seq (.reg [b 27 (.mv (T 5)), b 28 (.sc (.bin .lss 3) [(T 27), (I 13)])]) (.cond (T 28) .skip (.exit 0))) (.seq (.block 1 (.seq (.reg [a 31 (.mv (T 5)), a 32 (.sc (.ix 9) [(S [92, 46, 40, 41, 61, 123, 125, 124, 43, 45, 42, 47, 60]), (T 31)]), a 33 (.mv (T 0)), b 34 (.mv (T 1)), b 35 (.sc (.ix 9) [(T 33), (T 34)]), b 36 (.sc (.bin .eql 5) [(T 32), (T 35)])]) (.cond (T 36) (.seq (.reg [b 4 (.mv (I 1))]) .ret) .skip))) (.reg [b 29 (.mv (T 5)), b 30 (.sc (.bin .add 3) [(T 29), (I 1)]), b 5 (.mv (T 30))])))))) (.seq (.reg [b 4 (.mv (I 0))]) .ret))))
theorem k97 : ∃ code, Tryz.prog.funcs[97]? = some Tryz.f97 ∧ Tryz.f97.body = some code ∧ comp Tryz.prog Tryz.f97.ntmps code = some c97 ∧ rvs Tryz.prog Tryz.f97.results.toList = some [(.t 4)] := ⟨_, Tryz.func97, rfl, by kernel_rfl, by kernel_rfl⟩
def c98 : ACode := (.seq (.reg [b 2 (.mv (I 0))]) (.seq (.reg [b 3 (.mv (I 0))]) (.seq (.seq (.reg [b 4 (.mv (I 0))]) (.block 0 (.loop (.seq (.seq (.reg [b 5 (.mv (T 4)), b 6 (.mv (T 0)), b 7 (.sc (.bi .len [9] 3) [(T 6)]), b 8 (.sc (.bin .lss 3) [(T 5), (T 7)])]) (.cond (T 8) .skip (.exit 0))) (.seq (.block 1 (.reg [b 11 (.mv (T 3)), b 12 (.sc (.bin .mul 3) [(I 10), (T 11)]), b 13 (.mv (T 0)), b 14 (.mv (T 4)), b 15 (.sc (.ix 9) [(T 13), (T 14)]), b 16 (.sc (.cv 5 3) [(T 15)]), b 17 (.sc (.bin .add 3) [(T 12), (T 16)]), b 18 (.sc (.bin .sub 3) [(T 17), (I 48)]), b 3 (.mv (T 18))])) (.reg [b 9 (.mv (T 4)), b 10 (.sc (.bin .add 3) [(T 9), (I 1)]), b 4 (.mv (T 10))])))))) (.seq (.reg [b 19 (.mv (T 3)), b 2 (.mv (T 19))]) .ret))))
theorem k98 : ∃ code, Tryz.prog.funcs[98]? = some Tryz.f98 ∧ Tryz.f98.body = some code ∧ comp Tryz.prog Tryz.f98.ntmps code = some c98 ∧ rvs Tryz.prog Tryz.f98.results.toList = some [(.t 2)] := ⟨_, Tryz.func98, rfl, by kernel_rfl, by kernel_rfl⟩
def c99 : ACode := (.seq (.reg [b 2 (.mv (B false))]) (.seq (.reg [b 3 (.mv (T 0)), b 4 (.sc (.bin .eql 9) [(T 3), (S [108, 101, 116])]), b 5 (.mv (T 4)), bg 6 5 false (.mv (T 0)), bg 7 5 false (.sc (.bin .eql 9) [(T 6), (S [108, 101, 116, 114, 101, 99])]), b 8 (.pick (T 5) (B true) (T 7)), b 9 (.mv (T 8)), bg 10 9 false (.mv (T 0)), bg 11 9 false (.sc (.bin .eql 9) [(T 10), (S [105, 110])]), b 12 (.pick (T 9) (B true) (T 11)), b 13 (.mv (T 12)), bg 14 13 false (.mv (T 0)), bg 15 13 false (.sc (.bin .eql 9) [(T 14), (S [99, 97, 115, 101])]), b 16 (.pick (T 13) (B true) (T 15)), b 17 (.mv (T 16)), bg 18 17 false (.mv (T 0)), bg 19 17 false (.sc (.bin .eql 9) [(T 18), (S [111, 102])]), b 20 (.pick (T 17) (B true) (T 19)), b 2 (.mv (T 20))]) .ret))
theorem k99 : ∃ code, Tryz.prog.funcs[99]? = some Tryz.f99 ∧ Tryz.f99.body = some code ∧ comp Tryz.prog Tryz.f99.ntmps code = some c99 ∧ rvs Tryz.prog Tryz.f99.results.toList = some [(.t 2)] := ⟨_, Tryz.func99, rfl, by kernel_rfl, by kernel_rfl⟩
def c100 : ACode := (.seq (.reg [b 4 (.mv (I 0))]) (.seq (.seq (.reg [b 5 (.mv (T 1)), b 6 (.mv (T 0)), b 7 (.ln (T 6)), b 8 (.sc (.bin .lss 3) [(T 5), (T 7)])]) (.cond (T 8) (.seq (.reg [b 9 (.mv (T 0)), b 10 (.mv (T 1)), b 11 (.ia 4 (T 9) (T 10)), b 12 (.fa 0 (T 11)), b 13 (.ld false 1 (T 12)), b 4 (.mv (T 13))]) .ret) .skip)) (.seq (.reg [b 4 (.mv (I 0))]) .ret)))
theorem k100 : ∃ code, Tryz.prog.funcs[100]? = some Tryz.f100 ∧ Tryz.f100.body = some code ∧ comp Tryz.prog Tryz.f100.ntmps code = some c100 ∧ rvs Tryz.prog Tryz.f100.results.toList = some [(.t 4)] := ⟨_, Tryz.func100, rfl, by kernel_rfl, by kernel_rfl⟩
def c101 : ACode := (.seq (.reg [b 2 (.alloc [(.int .i64 0), (.string ⟨#[]⟩), (.int .i64 0), (.int .i64 0), (.slice none 0 0), (.int .i64 0), (.bool false)])]) (.seq (.reg [b 3 (.mv (T 0)), b 4 (.bld [(.int .i64 0), (.string ⟨#[]⟩), (.int .i64 0), (.int .i64 0), (.slice none 0 0), (.int .i64 0), (.bool false)] [(5, (1, (T 3)))]), b0 (.st 7 (T 2) (T 4))]) .ret))
theorem k101 : ∃ code, Tryz.prog.funcs[101]? = some Tryz.f101 ∧ Tryz.f101.body = some code ∧ comp Tryz.prog Tryz.f101.ntmps code = some c101 ∧ rvs Tryz.prog Tryz.f101.results.toList = some [(.c true 7 2)] := ⟨_, Tryz.func101, rfl, by kernel_rfl, by kernel_rfl⟩
def c102 : ACode := (.seq (.reg [b 2 (.box (T 0)), b 4 (.alloc [(.int .i64 0), (.string ⟨#[]⟩), (.int .i64 0), (.int .i64 0), (.slice none 0 0), (.int .i64 0), (.bool false)])]) (.seq (.reg [b 5 (.ld true 5 (T 2)), b 6 (.mv (T 1)), b 7 (.bld [(.int .i64 0), (.string ⟨#[]⟩), (.int .i64 0), (.int .i64 0), (.slice none 0 0), (.int .i64 0), (.bool false)] [(0, (5, (T 5))), (5, (1, (T 6))), (6, (1, (B true)))]), b0 (.st 7 (T 4) (T 7))]) .ret))
theorem k102 : ∃ code, Tryz.prog.funcs[102]? = some Tryz.f102 ∧ Tryz.f102.body = some code ∧ comp Tryz.prog Tryz.f102.ntmps code = some c102 ∧ rvs Tryz.prog Tryz.f102.results.toList = some [(.c true 7 4)] := ⟨_, Tryz.func102, rfl, by kernel_rfl, by kernel_rfl⟩
def c103 : ACode := (.seq (.reg [b 4 (.alloc [(.int .i64 0), (.string ⟨#[]⟩), (.int .i64 0), (.int .i64 0), (.slice none 0 0), (.int .i64 0), (.bool false)])]) (.seq (.seq (.reg [b 8 (.mv (T 0)), b 9 (.mv (T 1)), b 10 (.call 100 [(T 8), (T 9)]), b 11 (.sc (.bin .neq 3) [(T 10), (I 2)])]) (.cond (T 11) (.seq (.reg [b 12 (.mv (T 1)), b 13 (.call 101 [(T 12)]), b0 (.st 7 (T 4) (T 13))]) .ret) .skip)) (.seq (.reg [a 14 (.mv (T 0)), a 15 (.mv (T 1)), a 16 (.ia 4 (T 14) (T 15)), a 17 (.fa 1 (T 16)), a 18 (.ld false 1 (T 17)), a 19 (.mv (T 0)), a 20 (.mv (T 1)), a 21 (.ia 4 (T 19) (T 20)), a 22 (.fa 3 (T 21)), a 23 (.ld false 1 (T 22)), a 24 (.bld [(.int .i64 0), (.string ⟨#[]⟩), (.int .i64 0), (.int .i64 0), (.slice none 0 0)] [(0, (1, (I 8))), (1, (1, (T 18))), (3, (1, (T 23)))]), b 5 (.alloc [(.int .i64 0), (.string ⟨#[]⟩), (.int .i64 0), (.int .i64 0), (.slice none 0 0)]), b0 (.st 5 (T 5) (T 24))]) (.seq (.reg [b 25 (.mv (T 1)), b 26 (.sc (.bin .add 3) [(T 25), (I 1)]), b 6 (.mv (T 26))]) (.seq (.block 0 (.loop (.seq (.seq (.reg [b 27 (.mv (T 0)), b 28 (.mv (T 6)), b 29 (.call 100 [(T 27), (T 28)]), b 30 (.sc (.bin .eql 3) [(T 29), (I 1)])]) (.cond (T 30) .skip (.exit 0))) (.block 1 (.seq (.seq (.reg [b 31 (.fa 2 (T 5)), b 32 (.ld false 1 (T 31)), b 33 (.sc (.bin .eql 3) [(T 32), (I 8)])]) (.cond (T 33) (.seq (.reg [b 34 (.mv (T 6)), b 35 (.call 101 [(T 34)]), b0 (.st 7 (T 4) (T 35))]) .ret) .skip)) (.seq (.reg [b 36 (.fa 2 (T 5)), b 37 (.ld false 1 (T 36)), b 38 (.sc (.bin .add 3) [(T 37), (I 1)]), b 39 (.fa 2 (T 5)), b0 (.st 1 (T 39) (T 38))]) (.seq (.reg [a 40 (.fa 4 (T 5)), a 41 (.ld false 1 (T 40)), a 42 (.mv (T 0)), a 43 (.mv (T 6)), a 44 (.ia 4 (T 42) (T 43)), a 45 (.fa 1 (T 44)), a 46 (.ld false 1 (T 45)), a 47 (.mv (T 0)), b 48 (.mv (T 6)), b 49 (.ia 4 (T 47) (T 48)), b 50 (.fa 3 (T 49)), b 51 (.ld false 1 (T 50)), b 52 (.bld [(.int .i64 0), (.string ⟨#[]⟩), (.int .i64 0), (.int .i64 0), (.slice none 0 0)] [(0, (1, (I 1))), (1, (1, (T 46))), (3, (1, (T 51)))]), b 53 (.bs 43 5 [(T 52)]), b 54 (.ap 43 5 64 (T 41) (T 53)), b 55 (.fa 4 (T 5)), b0 (.st 1 (T 55) (T 54))]) (.reg [b 56 (.mv (T 6)), b 57 (.sc (.bin .add 3) [(T 56), (I 1)]), b 6 (.mv (T 57))])))))))) (.seq (.seq (.reg [b 58 (.mv (T 0)), b 59 (.mv (T 6)), b 60 (.call 69 [(T 58), (T 59)]), b 61 (.sc (.bin .neq 9) [(T 60), (S [45, 62])])]) (.cond (T 61) (.seq (.reg [b 62 (.mv (T 6)), b 63 (.call 101 [(T 62)]), b0 (.st 7 (T 4) (T 63))]) .ret) .skip)) (.seq (.reg [b 64 (.mv (T 0)), b 65 (.mv (T 6)), b 66 (.sc (.bin .add 3) [(T 65), (I 1)]), b 67 (.call 47 [(T 64), (T 66)]), b 7 (.alloc [(.int .i64 0), (.string ⟨#[]⟩), (.int .i64 0), (.int .i64 0), (.slice none 0 0), (.int .i64 0), (.bool false)]), b0 (.st 7 (T 7) (T 67))]) (.seq (.seq (.reg [b 68 (.fa 6 (T 7)), b 69 (.ld false 1 (T 68)), b 70 (.sc (.un .not) [(T 69)])]) (.cond (T 70) (.seq (.reg [b 71 (.ld true 7 (T 7)), b0 (.st 7 (T 4) (T 71))]) .ret) .skip)) (.seq (.reg [b 72 (.fa 4 (T 5)), b 73 (.ld false 1 (T 72)), b 74 (.fa 0 (T 7)), b 75 (.ld true 5 (T 74)), b 76 (.bs 43 5 [(T 75)]), b 77 (.ap 43 5 64 (T 73) (T 76)), b 78 (.fa 4 (T 5)), b0 (.st 1 (T 78) (T 77))]) (.seq (.reg [b 79 (.ld true 5 (T 5)), b 80 (.fa 5 (T 7)), b 81 (.ld false 1 (T 80)), b 82 (.call 102 [(T 79), (T 81)]), b0 (.st 7 (T 4) (T 82))]) .ret))))))))))
theorem k103 : ∃ code, Tryz.prog.funcs[103]? = some Tryz.f103 ∧ Tryz.f103.body = some code ∧ comp Tryz.prog Tryz.f103.ntmps code = some c103 ∧ rvs Tryz.prog Tryz.f103.results.toList = some [(.c true 7 4)] := ⟨_, Tryz.func103, rfl, by kernel_rfl, by kernel_rfl⟩
def c104 : ACode := (.seq (.reg [b 4 (.alloc [(.int .i64 0), (.string ⟨#[]⟩), (.int .i64 0), (.int .i64 0), (.slice none 0 0), (.int .i64 0), (.bool false)])]) (.seq (.reg [b 8 (.mv (T 0)), b 9 (.mv (T 1)), b 10 (.call 125 [(T 8), (T 9)]), b 5 (.alloc [(.int .i64 0), (.string ⟨#[]⟩), (.int .i64 0), (.int .i64 0), (.slice none 0 0), (.int .i64 0), (.bool false)]), b0 (.st 7 (T 5) (T 10))]) (.seq (.reg [b 11 (.mv (T 0)), b 12 (.mv (T 1)), b 13 (.call 100 [(T 11), (T 12)]), b 14 (.sc (.bin .eql 3) [(T 13), (I 2)]), b 6 (.mv (T 14))]) (.seq (.block 0 (.loop (.seq (.seq (.reg [b 15 (.fa 6 (T 5)), b 16 (.ld false 1 (T 15)), b 17 (.mv (T 16)), bg 18 17 true (.mv (T 0)), bg 19 17 true (.fa 5 (T 5)), bg 20 17 true (.ld false 1 (T 19)), bg 21 17 true (.call 126 [(T 18), (T 20)]), b 22 (.pick (T 17) (T 21) (B false))]) (.cond (T 22) .skip (.exit 0))) (.block 1 (.seq (.seq (.reg [b 23 (.mv (T 6)), b 24 (.mv (T 23)), bg 25 24 true (.fa 0 (T 5)), bg 26 24 true (.fa 4 (T 25)), bg 27 24 true (.ld false 1 (T 26)), bg 28 24 true (.ln (T 27)), bg 29 24 true (.sc (.bin .eql 3) [(T 28), (I 8)]), b 30 (.pick (T 24) (T 29) (B false))]) (.cond (T 30) (.seq (.reg [b 31 (.fa 5 (T 5)), b 32 (.ld false 1 (T 31)), b 33 (.call 101 [(T 32)]), b0 (.st 7 (T 4) (T 33))]) .ret) .skip)) (.seq (.reg [b 34 (.mv (T 0)), b 35 (.fa 5 (T 5)), b 36 (.ld false 1 (T 35)), b 37 (.call 125 [(T 34), (T 36)]), b 7 (.alloc [(.int .i64 0), (.string ⟨#[]⟩), (.int .i64 0), (.int .i64 0), (.slice none 0 0), (.int .i64 0), (.bool false)]), b0 (.st 7 (T 7) (T 37))]) (.seq (.seq (.reg [b 38 (.fa 6 (T 7)), b 39 (.ld false 1 (T 38)), b 40 (.sc (.un .not) [(T 39)])]) (.cond (T 40) (.seq (.reg [b 41 (.ld true 7 (T 7)), b0 (.st 7 (T 4) (T 41))]) .ret) .skip)) (.seq (.reg [b 42 (.mv (T 6))]) (.cond (T 42) (.seq (.reg [b 43 (.fa 0 (T 5)), b 44 (.fa 4 (T 43)), b 45 (.ld false 1 (T 44)), b 46 (.fa 0 (T 7)), b 47 (.ld true 5 (T 46)), b 48 (.bs 43 5 [(T 47)]), b 49 (.ap 43 5 64 (T 45) (T 48)), b 50 (.fa 0 (T 5)), b 51 (.fa 4 (T 50)), b0 (.st 1 (T 51) (T 49))]) (.reg [b 52 (.fa 5 (T 7)), b 53 (.ld false 1 (T 52)), b 54 (.fa 5 (T 5)), b0 (.st 1 (T 54) (T 53))])) (.reg [b 55 (.fa 0 (T 5)), b 56 (.fa 3 (T 55)), b 57 (.ld false 1 (T 56)), b 58 (.fa 0 (T 5)), b 59 (.ld true 5 (T 58)), b 60 (.fa 0 (T 7)), b 61 (.ld true 5 (T 60)), b 62 (.bs 43 5 [(T 59), (T 61)]), b 63 (.bld [(.int .i64 0), (.string ⟨#[]⟩), (.int .i64 0), (.int .i64 0), (.slice none 0 0)] [(0, (1, (I 3))), (3, (1, (T 57))), (4, (1, (T 62)))]), b 64 (.fa 5 (T 7)), b 65 (.ld false 1 (T 64)), b 66 (.call 102 [(T 63), (T 65)]), b0 (.st 7 (T 5) (T 66))])))))))))) (.seq (.reg [b 67 (.ld true 7 (T 5)), b0 (.st 7 (T 4) (T 67))]) .ret)))))
theorem k104 : ∃ code, Tryz.prog.funcs[104]? = some Tryz.f104 ∧ Tryz.f104.body = some code ∧ comp Tryz.prog Tryz.f104.ntmps code = some c104 ∧ rvs Tryz.prog Tryz.f104.results.toList = some [(.c true 7 4)] := ⟨_, Tryz.func104, rfl, by kernel_rfl, by kernel_rfl⟩
def c105 : ACode := (.seq (.reg [b 6 (.mv (B false))]) (.seq (.reg [b 8 (.mv (T 0)), b 9 (.mv (T 1)), b 10 (.call 69 [(T 8), (T 9)]), b 7 (.mv (T 10))]) (.seq (.seq (.reg [b 11 (.mv (T 2))]) (.block 0 (.seq (.reg [b 13 (.sc (.bin .eql 3) [(T 11), (I 0)]), b 12 (.mv (T 13))]) (.cond (T 12) (.seq (.reg [b 14 (.mv (T 7)), b 15 (.sc (.bin .eql 9) [(T 14), (S [60])]), b 16 (.mv (T 15)), bg 17 16 false (.mv (T 7)), bg 18 16 false (.sc (.bin .eql 9) [(T 17), (S [61, 61])]), b 19 (.pick (T 16) (B true) (T 18)), b 6 (.mv (T 19))]) .ret) (.seq (.reg [b 21 (.sc (.bin .eql 3) [(T 11), (I 1)]), b 20 (.mv (T 21))]) (.cond (T 20) (.seq (.reg [b 22 (.mv (T 7)), b 23 (.sc (.bin .eql 9) [(T 22), (S [43])]), b 24 (.mv (T 23)), bg 25 24 false (.mv (T 7)), bg 26 24 false (.sc (.bin .eql 9) [(T 25), (S [45])]), b 27 (.pick (T 24) (B true) (T 26)), b 6 (.mv (T 27))]) .ret) .skip)))))) (.seq (.reg [b 28 (.mv (T 7)), b 29 (.sc (.bin .eql 9) [(T 28), (S [42])]), b 30 (.mv (T 29)), bg 31 30 false (.mv (T 7)), bg 32 30 false (.sc (.bin .eql 9) [(T 31), (S [47])]), b 33 (.pick (T 30) (B true) (T 32)), b 6 (.mv (T 33))]) .ret))))
theorem k105 : ∃ code, Tryz.prog.funcs[105]? = some Tryz.f105 ∧ Tryz.f105.body = some code ∧ comp Tryz.prog Tryz.f105.ntmps code = some c105 ∧ rvs Tryz.prog Tryz.f105.results.toList = some [(.t 6)] := ⟨_, Tryz.func105, rfl, by kernel_rfl, by kernel_rfl⟩
def c106 : ACode := (.seq (.reg [b 2 (.box (T 0)), b 4 (.mv (B false))]) (.seq (.seq (.reg [b 6 (.fa 0 (T 2)), b 7 (.ld false 1 (T 6)), b 8 (.sc (.bin .eql 3) [(T 7), (I 8)]), b 9 (.mv (T 1)), b 10 (.sc (.bin .neq 4) [(T 8), (T 9)]), b 11 (.mv (T 10)), bg 12 11 false (.ld true 5 (T 2)), bg 13 11 false (.call 127 [(T 12)]), bg 14 11 false (.sc (.un .not) [(T 13)]), b 15 (.pick (T 11) (B true) (T 14)), b 16 (.mv (T 15)), bg 17 16 false (.ld true 5 (T 2)), bg 18 16 false (.call 128 [(T 17)]), bg 19 16 false (.sc (.un .not) [(T 18)]), b 20 (.pick (T 16) (B true) (T 19)), b 21 (.mv (T 20)), bg 22 21 false (.fa 3 (T 2)), bg 23 21 false (.ld false 1 (T 22)), bg 24 21 false (.sc (.bin .lss 3) [(T 23), (I 0)]), b 25 (.pick (T 21) (B true) (T 24))]) (.cond (T 25) (.seq (.reg [b 4 (.mv (B false))]) .ret) .skip)) (.seq (.seq (.reg [b 5 (.mv (I 0))]) (.block 0 (.loop (.seq (.seq (.reg [b 26 (.mv (T 5)), b 27 (.fa 4 (T 2)), b 28 (.ld false 1 (T 27)), b 29 (.ln (T 28)), b 30 (.sc (.bin .lss 3) [(T 26), (T 29)])]) (.cond (T 30) .skip (.exit 0))) (.seq (.block 1 (.seq (.seq (.reg [b 33 (.fa 0 (T 2)), b 34 (.ld false 1 (T 33)), b 35 (.sc (.bin .eql 3) [(T 34), (I 8)]), b 36 (.mv (T 35)), bg 37 36 true (.mv (T 5)), bg 38 36 true (.fa 2 (T 2)), bg 39 36 true (.ld false 1 (T 38)), bg 40 36 true (.sc (.bin .lss 3) [(T 37), (T 39)]), b 41 (.pick (T 36) (T 40) (B false)), b 42 (.mv (T 41)), bg 43 42 true (.fa 4 (T 2)), bg 44 42 true (.ld false 1 (T 43)), bg 45 42 true (.mv (T 5)), bg 46 42 true (.ia 5 (T 44) (T 45)), bg 47 42 true (.fa 0 (T 46)), bg 48 42 true (.ld false 1 (T 47)), bg 49 42 true (.sc (.bin .neq 3) [(T 48), (I 1)]), b 50 (.pick (T 42) (T 49) (B false))]) (.cond (T 50) (.seq (.reg [b 4 (.mv (B false))]) .ret) .skip)) (.seq (.reg [a 51 (.fa 4 (T 2)), a 52 (.ld false 1 (T 51)), a 53 (.mv (T 5)), a 54 (.ia 5 (T 52) (T 53)), a 55 (.ld true 5 (T 54)), b 56 (.fa 0 (T 2)), b 57 (.ld false 1 (T 56)), b 58 (.sc (.bin .eql 3) [(T 57), (I 7)]), b 59 (.mv (T 58)), bg 60 59 true (.mv (T 5)), bg 61 59 true (.sc (.bin .gtr 3) [(T 60), (I 0)]), b 62 (.pick (T 59) (T 61) (B false)), b 63 (.call 106 [(T 55), (T 62)]), b 64 (.sc (.un .not) [(T 63)])]) (.cond (T 64) (.seq (.reg [b 4 (.mv (B false))]) .ret) .skip)))) (.reg [b 31 (.mv (T 5)), b 32 (.sc (.bin .add 3) [(T 31), (I 1)]), b 5 (.mv (T 32))])))))) (.seq (.reg [b 4 (.mv (B true))]) .ret))))
theorem k106 : ∃ code, Tryz.prog.funcs[106]? = some Tryz.f106 ∧ Tryz.f106.body = some code ∧ comp Tryz.prog Tryz.f106.ntmps code = some c106 ∧ rvs Tryz.prog Tryz.f106.results.toList = some [(.t 4)] := ⟨_, Tryz.func106, rfl, by kernel_rfl, by kernel_rfl⟩
def c107 : ACode := (.seq (.reg [b 4 (.mv (B false))]) (.seq (.seq (.reg [b 5 (.mv (I 0))]) (.block 0 (.loop (.seq (.seq (.reg [b 6 (.mv (T 5)), b 7 (.mv (T 0)), b 8 (.ln (T 7)), b 9 (.sc (.bin .lss 3) [(T 6), (T 8)])]) (.cond (T 9) .skip (.exit 0))) (.seq (.block 1 (.seq (.reg [b 12 (.mv (T 0)), b 13 (.mv (T 5)), b 14 (.ia 1 (T 12) (T 13)), b 15 (.ld false 1 (T 14)), b 16 (.mv (T 1)), b 17 (.sc (.bin .eql 9) [(T 15), (T 16)])]) (.cond (T 17) (.seq (.reg [b 4 (.mv (B true))]) .ret) .skip))) (.reg [b 10 (.mv (T 5)), b 11 (.sc (.bin .add 3) [(T 10), (I 1)]), b 5 (.mv (T 11))])))))) (.seq (.reg [b 4 (.mv (B false))]) .ret)))
theorem k107 : ∃ code, Tryz.prog.funcs[107]? = some Tryz.f107 ∧ Tryz.f107.body = some code ∧ comp Tryz.prog Tryz.f107.ntmps code = some c107 ∧ rvs Tryz.prog Tryz.f107.results.toList = some [(.t 4)] := ⟨_, Tryz.func107, rfl, by kernel_rfl, by kernel_rfl⟩
def c108 : ACode := (.seq (.reg [b 1 (.box (T 0)), b 2 (.mv (I 0))]) (.seq (.seq (.reg [b 3 (.fa 0 (T 1)), b 4 (.ld false 1 (T 3)), b 5 (.sc (.bin .eql 3) [(T 4), (I 6)])]) (.cond (T 5) (.seq (.reg [b 6 (.fa 4 (T 1)), b 7 (.ld false 1 (T 6)), b 8 (.ln (T 7)), b 2 (.mv (T 8))]) .ret) .skip)) (.seq (.seq (.reg [b 9 (.fa 0 (T 1)), b 10 (.ld false 1 (T 9)), b 11 (.sc (.bin .eql 3) [(T 10), (I 8)])]) (.cond (T 11) (.seq (.reg [b 12 (.fa 2 (T 1)), b 13 (.ld false 1 (T 12)), b 2 (.mv (T 13))]) .ret) .skip)) (.seq (.reg [b 2 (.mv (I (-1)))]) .ret))))
theorem k108 : ∃ code, Tryz.prog.funcs[108]? = some Tryz.f108 ∧ Tryz.f108.body = some code ∧ comp Tryz.prog Tryz.f108.ntmps code = some c108 ∧ rvs Tryz.prog Tryz.f108.results.toList = some [(.t 2)] := ⟨_, Tryz.func108, rfl, by kernel_rfl, by kernel_rfl⟩
def c109 : ACode := (.seq (.reg [b 4 (.mv (I 0))]) (.seq (.seq (.reg [b 5 (.mv (I 0))]) (.block 0 (.loop (.seq (.seq (.reg [b 6 (.mv (T 5)), b 7 (.mv (T 0)), b 8 (.ln (T 7)), b 9 (.sc (.bin .lss 3) [(T 6), (T 8)])]) (.cond (T 9) .skip (.exit 0))) (.seq (.block 1 (.seq (.reg [b 12 (.mv (T 0)), b 13 (.mv (T 5)), b 14 (.ia 2 (T 12) (T 13)), b 15 (.fa 0 (T 14)), b 16 (.ld false 1 (T 15)), b 17 (.mv (T 1)), b 18 (.sc (.bin .eql 9) [(T 16), (T 17)])]) (.cond (T 18) (.seq (.reg [b 19 (.mv (T 0)), b 20 (.mv (T 5)), b 21 (.ia 2 (T 19) (T 20)), b 22 (.fa 1 (T 21)), b 23 (.ld false 1 (T 22)), b 4 (.mv (T 23))]) .ret) .skip))) (.reg [b 10 (.mv (T 5)), b 11 (.sc (.bin .add 3) [(T 10), (I 1)]), b 5 (.mv (T 11))])))))) (.seq (.reg [b 4 (.mv (I (-1)))]) .ret)))
theorem k109 : ∃ code, Tryz.prog.funcs[109]? = some Tryz.f109 ∧ Tryz.f109.body = some code ∧ comp Tryz.prog Tryz.f109.ntmps code = some c109 ∧ rvs Tryz.prog Tryz.f109.results.toList = some [(.t 4)] := ⟨_, Tryz.func109, rfl, by kernel_rfl, by kernel_rfl⟩
def c110 : ACode := (.seq (.reg [b 1 (.box (T 0)), b 2 (.mv (B false))]) (.seq (.seq (.reg [b 3 (.mv (I 0))]) (.block 0 (.loop (.seq (.seq (.reg [b 5 (.mv (T 3)), b 6 (.fa 2 (T 1)), b 7 (.ld false 1 (T 6)), b 8 (.sc (.bin .lss 3) [(T 5), (T 7)])]) (.cond (T 8) .skip (.exit 0))) (.seq (.block 1 (.seq (.reg [b 4 (.mv (I 0))]) (.block 2 (.loop (.seq (.seq (.reg [b 11 (.mv (T 4)), b 12 (.mv (T 3)), b 13 (.sc (.bin .lss 3) [(T 11), (T 12)])]) (.cond (T 13) .skip (.exit 2))) (.seq (.block 3 (.seq (.reg [a 16 (.fa 4 (T 1)), a 17 (.ld false 1 (T 16)), a 18 (.mv (T 3)), a 19 (.ia 5 (T 17) (T 18)), a 20 (.fa 1 (T 19)), a 21 (.ld false 1 (T 20)), a 22 (.fa 4 (T 1)), a 23 (.ld false 1 (T 22)), b 24 (.mv (T 4)), b 25 (.ia 5 (T 23) (T 24)), b 26 (.fa 1 (T 25)), b 27 (.ld false 1 (T 26)), b 28 (.sc (.bin .eql 9) [(T 21), (T 27)])]) (.cond (T 28) (.seq (.reg [b 2 (.mv (B true))]) .ret) .skip))) (.reg [b 14 (.mv (T 4)), b 15 (.sc (.bin .add 3) [(T 14), (I 1)]), b 4 (.mv (T 15))]))))))) (.reg [b 9 (.mv (T 3)), b 10 (.sc (.bin .add 3) [(T 9), (I 1)]), b 3 (.mv (T 10))])))))) (.seq (.reg [b 2 (.mv (B false))]) .ret)))
theorem k110 : ∃ code, Tryz.prog.funcs[110]? = some Tryz.f110 ∧ Tryz.f110.body = some code ∧ comp Tryz.prog Tryz.f110.ntmps code = some c110 ∧ rvs Tryz.prog Tryz.f110.results.toList = some [(.t 2)] := ⟨_, Tryz.func110, rfl, by kernel_rfl, by kernel_rfl⟩
def c111 : ACode := (.seq (.reg [b 1 (.box (T 0)), b 2 (.mv (I 0))]) (.seq (.seq (.reg [b 3 (.fa 0 (T 1)), b 4 (.ld false 1 (T 3)), b 5 (.sc (.bin .eql 3) [(T 4), (I 8)])]) (.cond (T 5) (.seq (.reg [b 6 (.fa 2 (T 1)), b 7 (.ld false 1 (T 6)), b 2 (.mv (T 7))]) .ret) .skip)) (.seq (.reg [b 2 (.mv (I 0))]) .ret)))
theorem k111 : ∃ code, Tryz.prog.funcs[111]? = some Tryz.f111 ∧ Tryz.f111.body = some code ∧ comp Tryz.prog Tryz.f111.ntmps code = some c111 ∧ rvs Tryz.prog Tryz.f111.results.toList = some [(.t 2)] := ⟨_, Tryz.func111, rfl, by kernel_rfl, by kernel_rfl⟩
def c112 : ACode := (.seq (.reg [b 3 (.box (T 0)), b 6 (.mv NilS)]) (.seq (.seq (.reg [b 8 (.fa 0 (T 3)), b 9 (.ld false 1 (T 8))]) (.block 0 (.seq (.seq (.reg [b 11 (.sc (.bin .eql 3) [(T 9), (I 2)]), b 10 (.mv (T 11))]) (.cond (T 10) .skip (.reg [b 12 (.sc (.bin .eql 3) [(T 9), (I 5)]), b 10 (.mv (T 12))]))) (.cond (T 10) (.seq (.reg [b 13 (.mv (T 2)), b 14 (.fa 1 (T 3)), b 15 (.ld false 1 (T 14)), b 16 (.call 129 [(T 13), (T 15)]), b 6 (.mv (T 16))]) .ret) (.seq (.reg [b 18 (.sc (.bin .eql 3) [(T 9), (I 4)]), b 17 (.mv (T 18))]) (.cond (T 17) (.seq (.reg [b 19 (.mv (T 1)), b 20 (.sc (.bin .eql 3) [(T 19), (I 1)])]) (.cond (T 20) (.seq (.reg [b 21 (.mv (T 2)), b 22 (.fa 1 (T 3)), b 23 (.ld false 1 (T 22)), b 24 (.call 129 [(T 21), (T 23)]), b 6 (.mv (T 24))]) .ret) .skip)) (.seq (.reg [b 26 (.sc (.bin .eql 3) [(T 9), (I 8)]), b 25 (.mv (T 26))]) (.cond (T 25) (.seq (.reg [b 7 (.mv (I 0))]) (.block 1 (.loop (.seq (.seq (.reg [b 27 (.mv (T 7)), b 28 (.fa 2 (T 3)), b 29 (.ld false 1 (T 28)), b 30 (.sc (.bin .lss 3) [(T 27), (T 29)])]) (.cond (T 30) .skip (.exit 1))) (.seq (.block 2 (.reg [b 33 (.mv (T 2)), b 34 (.fa 4 (T 3)), b 35 (.ld false 1 (T 34)), b 36 (.mv (T 7)), b 37 (.ia 5 (T 35) (T 36)), b 38 (.fa 1 (T 37)), b 39 (.ld false 1 (T 38)), b 40 (.call 129 [(T 33), (T 39)]), b 2 (.mv (T 40))])) (.reg [b 31 (.mv (T 7)), b 32 (.sc (.bin .add 3) [(T 31), (I 1)]), b 7 (.mv (T 32))])))))) .skip)))))))) (.seq (.reg [b 41 (.mv (T 2)), b 6 (.mv (T 41))]) .ret)))
theorem k112 : ∃ code, Tryz.prog.funcs[112]? = some Tryz.f112 ∧ Tryz.f112.body = some code ∧ comp Tryz.prog Tryz.f112.ntmps code = some c112 ∧ rvs Tryz.prog Tryz.f112.results.toList = some [(.t 6)] := ⟨_, Tryz.func112, rfl, by kernel_rfl, by kernel_rfl⟩
def c113 : ACode := (.seq (.reg [b 2 (.box (T 0)), b 4 (.mv NilS)]) (.seq (.seq (.reg [b 6 (.ld true 5 (T 2)), b 7 (.call 108 [(T 6)]), b 8 (.sc (.bin .geq 3) [(T 7), (I 0)]), b 9 (.mv (T 8)), bg 10 9 true (.mv (T 1)), bg 11 9 true (.fa 1 (T 2)), bg 12 9 true (.ld false 1 (T 11)), bg 13 9 true (.call 109 [(T 10), (T 12)]), bg 14 9 true (.sc (.bin .lss 3) [(T 13), (I 0)]), b 15 (.pick (T 9) (T 14) (B false))]) (.cond (T 15) (.reg [a 16 (.bs 113 2 []), a 17 (.mv (T 1)), a 18 (.ap 113 2 24 (T 16) (T 17)), a 19 (.fa 1 (T 2)), a 20 (.ld false 1 (T 19)), b 21 (.ld true 5 (T 2)), b 22 (.call 108 [(T 21)]), b 23 (.bld [(.string ⟨#[]⟩), (.int .i64 0)] [(0, (1, (T 20))), (1, (1, (T 22)))]), b 24 (.bs 113 2 [(T 23)]), b 25 (.ap 113 2 24 (T 18) (T 24)), b 1 (.mv (T 25))]) .skip)) (.seq (.seq (.reg [b 26 (.ld true 5 (T 2)), b 27 (.call 111 [(T 26)]), b 5 (.mv (T 27))]) (.block 0 (.loop (.seq (.seq (.reg [b 28 (.mv (T 5)), b 29 (.fa 4 (T 2)), b 30 (.ld false 1 (T 29)), b 31 (.ln (T 30)), b 32 (.sc (.bin .lss 3) [(T 28), (T 31)])]) (.cond (T 32) .skip (.exit 0))) (.seq (.block 1 (.reg [b 35 (.fa 4 (T 2)), b 36 (.ld false 1 (T 35)), b 37 (.mv (T 5)), b 38 (.ia 5 (T 36) (T 37)), b 39 (.ld true 5 (T 38)), b 40 (.mv (T 1)), b 41 (.call 113 [(T 39), (T 40)]), b 1 (.mv (T 41))])) (.reg [b 33 (.mv (T 5)), b 34 (.sc (.bin .add 3) [(T 33), (I 1)]), b 5 (.mv (T 34))])))))) (.seq (.reg [b 42 (.mv (T 1)), b 4 (.mv (T 42))]) .ret))))
theorem k113 : ∃ code, Tryz.prog.funcs[113]? = some Tryz.f113 ∧ Tryz.f113.body = some code ∧ comp Tryz.prog Tryz.f113.ntmps code = some c113 ∧ rvs Tryz.prog Tryz.f113.results.toList = some [(.t 4)] := ⟨_, Tryz.func113, rfl, by kernel_rfl, by kernel_rfl⟩
def c125 : ACode := (.seq (.reg [b 4 (.alloc [(.int .i64 0), (.string ⟨#[]⟩), (.int .i64 0), (.int .i64 0), (.slice none 0 0), (.int .i64 0), (.bool false)])]) (.seq (.seq (.reg [b 6 (.mv (T 0)), b 7 (.mv (T 1)), b 8 (.call 69 [(T 6), (T 7)]), b 9 (.sc (.bin .eql 9) [(T 8), (S [40])])]) (.cond (T 9) (.seq (.reg [b 10 (.mv (T 0)), b 11 (.mv (T 1)), b 12 (.sc (.bin .add 3) [(T 11), (I 1)]), b 13 (.call 47 [(T 10), (T 12)]), b 5 (.alloc [(.int .i64 0), (.string ⟨#[]⟩), (.int .i64 0), (.int .i64 0), (.slice none 0 0), (.int .i64 0), (.bool false)]), b0 (.st 7 (T 5) (T 13))]) (.seq (.seq (.reg [b 14 (.fa 6 (T 5)), b 15 (.ld false 1 (T 14)), b 16 (.mv (T 15)), bg 17 16 true (.mv (T 0)), bg 18 16 true (.fa 5 (T 5)), bg 19 16 true (.ld false 1 (T 18)), bg 20 16 true (.call 69 [(T 17), (T 19)]), bg 21 16 true (.sc (.bin .neq 9) [(T 20), (S [41])]), b 22 (.pick (T 16) (T 21) (B false))]) (.cond (T 22) (.seq (.reg [b 23 (.fa 5 (T 5)), b 24 (.ld false 1 (T 23)), b 25 (.call 101 [(T 24)]), b0 (.st 7 (T 4) (T 25))]) .ret) .skip)) (.seq (.reg [b 26 (.fa 5 (T 5)), b 27 (.ld false 1 (T 26)), b 28 (.sc (.bin .add 3) [(T 27), (I 1)]), b 29 (.fa 5 (T 5)), b0 (.st 1 (T 29) (T 28))]) (.seq (.seq (.reg [b 30 (.fa 6 (T 5)), b 31 (.ld false 1 (T 30)), b 32 (.sc (.un .not) [(T 31)])]) (.cond (T 32) (.reg [b 33 (.fa 5 (T 5)), b 34 (.ld false 1 (T 33)), b 35 (.sc (.bin .sub 3) [(T 34), (I 1)]), b 36 (.fa 5 (T 5)), b0 (.st 1 (T 36) (T 35))]) .skip)) (.seq (.reg [b 37 (.ld true 7 (T 5)), b0 (.st 7 (T 4) (T 37))]) .ret))))) .skip)) (.seq (.seq (.reg [b 38 (.mv (T 0)), b 39 (.mv (T 1)), b 40 (.call 100 [(T 38), (T 39)])]) (.block 0 (.seq (.reg [b 42 (.sc (.bin .eql 3) [(T 40), (I 1)]), b 41 (.mv (T 42))]) (.cond (T 41) (.seq (.reg [a 43 (.mv (T 0)), a 44 (.mv (T 1)), a 45 (.ia 4 (T 43) (T 44)), a 46 (.fa 1 (T 45)), a 47 (.ld false 1 (T 46)), a 48 (.mv (T 0)), a 49 (.mv (T 1)), a 50 (.ia 4 (T 48) (T 49)), a 51 (.fa 3 (T 50)), a 52 (.ld false 1 (T 51)), a 53 (.bld [(.int .i64 0), (.string ⟨#[]⟩), (.int .i64 0), (.int .i64 0), (.slice none 0 0)] [(0, (1, (I 1))), (1, (1, (T 47))), (3, (1, (T 52)))]), b 54 (.mv (T 1)), b 55 (.sc (.bin .add 3) [(T 54), (I 1)]), b 56 (.call 102 [(T 53), (T 55)]), b0 (.st 7 (T 4) (T 56))]) .ret) (.seq (.reg [b 58 (.sc (.bin .eql 3) [(T 40), (I 2)]), b 57 (.mv (T 58))]) (.cond (T 57) (.seq (.reg [a 59 (.mv (T 0)), a 60 (.mv (T 1)), a 61 (.ia 4 (T 59) (T 60)), a 62 (.fa 1 (T 61)), a 63 (.ld false 1 (T 62)), a 64 (.mv (T 0)), a 65 (.mv (T 1)), a 66 (.ia 4 (T 64) (T 65)), a 67 (.fa 3 (T 66)), a 68 (.ld false 1 (T 67)), a 69 (.bld [(.int .i64 0), (.string ⟨#[]⟩), (.int .i64 0), (.int .i64 0), (.slice none 0 0)] [(0, (1, (I 6))), (1, (1, (T 63))), (3, (1, (T 68)))]), b 70 (.mv (T 1)), b 71 (.sc (.bin .add 3) [(T 70), (I 1)]), b 72 (.call 102 [(T 69), (T 71)]), b0 (.st 7 (T 4) (T 72))]) .ret) (.seq (.reg [b 74 (.sc (.bin .eql 3) [(T 40), (I 3)]), b 73 (.mv (T 74))]) (.cond (T 73) (.seq (.reg [a 75 (.mv (T 0)), a 76 (.mv (T 1)), a 77 (.ia 4 (T 75) (T 76)), a 78 (.fa 2 (T 77)), a 79 (.ld false 1 (T 78)), a 80 (.mv (T 0)), a 81 (.mv (T 1)), a 82 (.ia 4 (T 80) (T 81)), a 83 (.fa 3 (T 82)), a 84 (.ld false 1 (T 83)), a 85 (.bld [(.int .i64 0), (.string ⟨#[]⟩), (.int .i64 0), (.int .i64 0), (.slice none 0 0)] [(0, (1, (I 9))), (2, (1, (T 79))), (3, (1, (T 84)))]), b 86 (.mv (T 1)), b 87 (.sc (.bin .add 3) [(T 86), (I 1)]), b 88 (.call 102 [(T 85), (T 87)]), b0 (.st 7 (T 4) (T 88))]) .ret) .skip)))))))) (.seq (.reg [b 89 (.mv (T 1)), b 90 (.call 101 [(T 89)]), b0 (.st 7 (T 4) (T 90))]) .ret))))
theorem k125 : ∃ code, Tryz.prog.funcs[125]? = some Tryz.f125 ∧ Tryz.f125.body = some code ∧ comp Tryz.prog Tryz.f125.ntmps code = some c125 ∧ rvs Tryz.prog Tryz.f125.results.toList = some [(.c true 7 4)] := ⟨_, Tryz.func125, rfl, by kernel_rfl, by kernel_rfl⟩
def c126 : ACode := (.seq (.reg [b 4 (.mv (B false))]) (.seq (.reg [b 6 (.mv (T 0)), b 7 (.mv (T 1)), b 8 (.call 100 [(T 6), (T 7)]), b 5 (.mv (T 8))]) (.seq (.reg [b 9 (.mv (T 5)), b 10 (.sc (.bin .geq 3) [(T 9), (I 1)]), b 11 (.mv (T 10)), bg 12 11 true (.mv (T 5)), bg 13 11 true (.sc (.bin .leq 3) [(T 12), (I 3)]), b 14 (.pick (T 11) (T 13) (B false)), b 15 (.mv (T 14)), bg 16 15 false (.mv (T 0)), bg 17 15 false (.mv (T 1)), bg 18 15 false (.call 69 [(T 16), (T 17)]), bg 19 15 false (.sc (.bin .eql 9) [(T 18), (S [40])]), b 20 (.pick (T 15) (B true) (T 19)), b 4 (.mv (T 20))]) .ret)))
theorem k126 : ∃ code, Tryz.prog.funcs[126]? = some Tryz.f126 ∧ Tryz.f126.body = some code ∧ comp Tryz.prog Tryz.f126.ntmps code = some c126 ∧ rvs Tryz.prog Tryz.f126.results.toList = some [(.t 4)] := ⟨_, Tryz.func126, rfl, by kernel_rfl, by kernel_rfl⟩
def c127 : ACode := (.seq (.reg [b 1 (.box (T 0)), b 2 (.mv (B false))]) (.seq (.seq (.reg [b 3 (.fa 0 (T 1)), b 4 (.ld false 1 (T 3))]) (.block 0 (.seq (.seq (.reg [b 6 (.sc (.bin .eql 3) [(T 4), (I 1)]), b 5 (.mv (T 6))]) (.cond (T 5) .skip (.seq (.reg [b 7 (.sc (.bin .eql 3) [(T 4), (I 2)]), b 5 (.mv (T 7))]) (.cond (T 5) .skip (.seq (.reg [b 8 (.sc (.bin .eql 3) [(T 4), (I 4)]), b 5 (.mv (T 8))]) (.cond (T 5) .skip (.reg [b 9 (.sc (.bin .eql 3) [(T 4), (I 5)]), b 5 (.mv (T 9))]))))))) (.cond (T 5) (.seq (.reg [b 10 (.fa 1 (T 1)), b 11 (.ld false 1 (T 10)), b 12 (.call 142 [(T 11), (I 1)]), b 2 (.mv (T 12))]) .ret) (.seq (.seq (.reg [b 14 (.sc (.bin .eql 3) [(T 4), (I 6)]), b 13 (.mv (T 14))]) (.cond (T 13) .skip (.reg [b 15 (.sc (.bin .eql 3) [(T 4), (I 8)]), b 13 (.mv (T 15))]))) (.cond (T 13) (.seq (.reg [b 16 (.fa 1 (T 1)), b 17 (.ld false 1 (T 16)), b 18 (.call 142 [(T 17), (I 2)]), b 2 (.mv (T 18))]) .ret) (.seq (.reg [b 20 (.sc (.bin .eql 3) [(T 4), (I 10)]), b 19 (.mv (T 20))]) (.cond (T 19) (.seq (.reg [b 21 (.fa 1 (T 1)), b 22 (.ld false 1 (T 21)), b 23 (.sc (.bin .eql 9) [(T 22), (S [43])]), b 24 (.mv (T 23)), bg 25 24 false (.fa 1 (T 1)), bg 26 24 false (.ld false 1 (T 25)), bg 27 24 false (.sc (.bin .eql 9) [(T 26), (S [45])]), b 28 (.pick (T 24) (B true) (T 27)), b 29 (.mv (T 28)), bg 30 29 false (.fa 1 (T 1)), bg 31 29 false (.ld false 1 (T 30)), bg 32 29 false (.sc (.bin .eql 9) [(T 31), (S [42])]), b 33 (.pick (T 29) (B true) (T 32)), b 34 (.mv (T 33)), bg 35 34 false (.fa 1 (T 1)), bg 36 34 false (.ld false 1 (T 35)), bg 37 34 false (.sc (.bin .eql 9) [(T 36), (S [47])]), b 38 (.pick (T 34) (B true) (T 37)), b 39 (.mv (T 38)), bg 40 39 false (.fa 1 (T 1)), bg 41 39 false (.ld false 1 (T 40)), bg 42 39 false (.sc (.bin .eql 9) [(T 41), (S [60])]), b 43 (.pick (T 39) (B true) (T 42)), b 44 (.mv (T 43)), bg 45 44 false (.fa 1 (T 1)), bg 46 44 false (.ld false 1 (T 45)), bg 47 44 false (.sc (.bin .eql 9) [(T 46), (S [61, 61])]), b 48 (.pick (T 44) (B true) (T 47)), b 2 (.mv (T 48))]) .ret) .skip)))))))) (.seq (.reg [b 49 (.fa 1 (T 1)), b 50 (.ld false 1 (T 49)), b 51 (.sc (.bin .eql 9) [(T 50), (S [])]), b 2 (.mv (T 51))]) .ret)))
theorem k127 : ∃ code, Tryz.prog.funcs[127]? = some Tryz.f127 ∧ Tryz.f127.body = some code ∧ comp Tryz.prog Tryz.f127.ntmps code = some c127 ∧ rvs Tryz.prog Tryz.f127.results.toList = some [(.t 2)] := ⟨_, Tryz.func127, rfl, by kernel_rfl, by kernel_rfl⟩
def c128 : ACode := (.seq (.reg [b 1 (.box (T 0)), b 2 (.mv (B false))]) (.seq (.reg [b 4 (.fa 4 (T 1)), b 5 (.ld false 1 (T 4)), b 6 (.ln (T 5)), b 3 (.mv (T 6))]) (.seq (.seq (.reg [b 7 (.fa 0 (T 1)), b 8 (.ld false 1 (T 7))]) (.block 0 (.seq (.reg [b 10 (.sc (.bin .eql 3) [(T 8), (I 1)]), b 9 (.mv (T 10))]) (.cond (T 9) (.seq (.reg [b 11 (.mv (T 3)), b 12 (.sc (.bin .eql 3) [(T 11), (I 0)]), b 13 (.mv (T 12)), bg 14 13 true (.fa 2 (T 1)), bg 15 13 true (.ld false 1 (T 14)), bg 16 13 true (.sc (.bin .eql 3) [(T 15), (I 0)]), b 17 (.pick (T 13) (T 16) (B false)), b 2 (.mv (T 17))]) .ret) (.seq (.reg [b 19 (.sc (.bin .eql 3) [(T 8), (I 2)]), b 18 (.mv (T 19))]) (.cond (T 18) (.seq (.reg [b 20 (.mv (T 3)), b 21 (.sc (.bin .eql 3) [(T 20), (I 1)]), b 22 (.mv (T 21)), bg 23 22 true (.fa 2 (T 1)), bg 24 22 true (.ld false 1 (T 23)), bg 25 22 true (.sc (.bin .eql 3) [(T 24), (I 0)]), b 26 (.pick (T 22) (T 25) (B false)), b 2 (.mv (T 26))]) .ret) (.seq (.seq (.reg [b 28 (.sc (.bin .eql 3) [(T 8), (I 3)]), b 27 (.mv (T 28))]) (.cond (T 27) .skip (.seq (.reg [b 29 (.sc (.bin .eql 3) [(T 8), (I 4)]), b 27 (.mv (T 29))]) (.cond (T 27) .skip (.seq (.reg [b 30 (.sc (.bin .eql 3) [(T 8), (I 5)]), b 27 (.mv (T 30))]) (.cond (T 27) .skip (.reg [b 31 (.sc (.bin .eql 3) [(T 8), (I 10)]), b 27 (.mv (T 31))]))))))) (.cond (T 27) (.seq (.reg [b 32 (.mv (T 3)), b 33 (.sc (.bin .eql 3) [(T 32), (I 2)]), b 34 (.mv (T 33)), bg 35 34 true (.fa 2 (T 1)), bg 36 34 true (.ld false 1 (T 35)), bg 37 34 true (.sc (.bin .eql 3) [(T 36), (I 0)]), b 38 (.pick (T 34) (T 37) (B false)), b 2 (.mv (T 38))]) .ret) (.seq (.reg [b 40 (.sc (.bin .eql 3) [(T 8), (I 6)]), b 39 (.mv (T 40))]) (.cond (T 39) (.seq (.reg [b 41 (.mv (T 3)), b 42 (.sc (.bin .leq 3) [(T 41), (I 8)]), b 43 (.mv (T 42)), bg 44 43 true (.fa 2 (T 1)), bg 45 43 true (.ld false 1 (T 44)), bg 46 43 true (.sc (.bin .eql 3) [(T 45), (I 0)]), b 47 (.pick (T 43) (T 46) (B false)), b 2 (.mv (T 47))]) .ret) (.seq (.reg [b 49 (.sc (.bin .eql 3) [(T 8), (I 7)]), b 48 (.mv (T 49))]) (.cond (T 48) (.seq (.reg [b 50 (.mv (T 3)), b 51 (.sc (.bin .geq 3) [(T 50), (I 2)]), b 52 (.mv (T 51)), bg 53 52 true (.mv (T 3)), bg 54 52 true (.sc (.bin .leq 3) [(T 53), (I 9)]), b 55 (.pick (T 52) (T 54) (B false)), b 56 (.mv (T 55)), bg 57 56 true (.fa 2 (T 1)), bg 58 56 true (.ld false 1 (T 57)), bg 59 56 true (.sc (.bin .eql 3) [(T 58), (I 0)]), b 60 (.pick (T 56) (T 59) (B false)), b 2 (.mv (T 60))]) .ret) (.seq (.reg [b 62 (.sc (.bin .eql 3) [(T 8), (I 8)]), b 61 (.mv (T 62))]) (.cond (T 61) (.seq (.reg [b 63 (.fa 2 (T 1)), b 64 (.ld false 1 (T 63)), b 65 (.sc (.bin .geq 3) [(T 64), (I 0)]), b 66 (.mv (T 65)), bg 67 66 true (.fa 2 (T 1)), bg 68 66 true (.ld false 1 (T 67)), bg 69 66 true (.sc (.bin .leq 3) [(T 68), (I 8)]), b 70 (.pick (T 66) (T 69) (B false)), b 71 (.mv (T 70)), bg 72 71 true (.mv (T 3)), bg 73 71 true (.fa 2 (T 1)), bg 74 71 true (.ld false 1 (T 73)), bg 75 71 true (.sc (.bin .add 3) [(T 74), (I 1)]), bg 76 71 true (.sc (.bin .eql 3) [(T 72), (T 75)]), b 77 (.pick (T 71) (T 76) (B false)), b 2 (.mv (T 77))]) .ret) (.seq (.reg [b 79 (.sc (.bin .eql 3) [(T 8), (I 9)]), b 78 (.mv (T 79))]) (.cond (T 78) (.seq (.reg [b 80 (.mv (T 3)), b 81 (.sc (.bin .eql 3) [(T 80), (I 0)]), b 82 (.mv (T 81)), bg 83 82 true (.fa 2 (T 1)), bg 84 82 true (.ld false 1 (T 83)), bg 85 82 true (.sc (.bin .geq 3) [(T 84), (I 0)]), b 86 (.pick (T 82) (T 85) (B false)), b 87 (.mv (T 86)), bg 88 87 true (.fa 2 (T 1)), bg 89 87 true (.ld false 1 (T 88)), bg 90 87 true (.sc (.bin .lss 3) [(T 89), (I 1000000000000000000)]), b 91 (.pick (T 87) (T 90) (B false)), b 2 (.mv (T 91))]) .ret) .skip)))))))))))))))) (.seq (.reg [b 2 (.mv (B false))]) .ret))))
theorem k128 : ∃ code, Tryz.prog.funcs[128]? = some Tryz.f128 ∧ Tryz.f128.body = some code ∧ comp Tryz.prog Tryz.f128.ntmps code = some c128 ∧ rvs Tryz.prog Tryz.f128.results.toList = some [(.t 2)] := ⟨_, Tryz.func128, rfl, by kernel_rfl, by kernel_rfl⟩
def c129 : ACode := (.seq (.reg [b 4 (.mv NilS)]) (.seq (.reg [b 5 (.bs 9 1 []), b 6 (.mv (T 0)), b 7 (.ap 9 1 16 (T 5) (T 6)), b 8 (.mv (T 1)), b 9 (.bs 9 1 [(T 8)]), b 10 (.ap 9 1 16 (T 7) (T 9)), b 4 (.mv (T 10))]) .ret))
theorem k129 : ∃ code, Tryz.prog.funcs[129]? = some Tryz.f129 ∧ Tryz.f129.body = some code ∧ comp Tryz.prog Tryz.f129.ntmps code = some c129 ∧ rvs Tryz.prog Tryz.f129.results.toList = some [(.t 4)] := ⟨_, Tryz.func129, rfl, by kernel_rfl, by kernel_rfl⟩
def c142 : ACode := (.seq (.reg [b 4 (.mv (B false))]) (.seq (.seq (.reg [b 7 (.mv (T 0)), b 8 (.sc (.bin .eql 9) [(T 7), (S [])])]) (.cond (T 8) (.seq (.reg [b 4 (.mv (B false))]) .ret) .skip)) (.seq (.reg [b 10 (.mv (T 0)), b 11 (.call 68 [(T 10), (I 0)]), b 9 (.mv (T 11)), b 12 (.ex (T 9) 0), b 13 (.ex (T 9) 1), b 5 (.alloc [(.int .i64 0), (.string ⟨#[]⟩), (.int .i64 0), (.int .i64 0)]), b0 (.st 4 (T 5) (T 12)), b 6 (.mv (T 13))]) (.seq (.reg [b 14 (.mv (T 6)), b 15 (.sc (.bin .eql 30) [(T 14), (I 0)]), b 16 (.mv (T 15)), bg 17 16 true (.fa 0 (T 5)), bg 18 16 true (.ld false 1 (T 17)), bg 19 16 true (.mv (T 1)), bg 20 16 true (.sc (.bin .eql 3) [(T 18), (T 19)]), b 21 (.pick (T 16) (T 20) (B false)), b 22 (.mv (T 21)), bg 23 22 true (.fa 1 (T 5)), bg 24 22 true (.ld false 1 (T 23)), bg 25 22 true (.mv (T 0)), bg 26 22 true (.sc (.bin .eql 9) [(T 24), (T 25)]), b 27 (.pick (T 22) (T 26) (B false)), b 4 (.mv (T 27))]) .ret))))
theorem k142 : ∃ code, Tryz.prog.funcs[142]? = some Tryz.f142 ∧ Tryz.f142.body = some code ∧ comp Tryz.prog Tryz.f142.ntmps code = some c142 ∧ rvs Tryz.prog Tryz.f142.results.toList = some [(.t 4)] := ⟨_, Tryz.func142, rfl, by kernel_rfl, by kernel_rfl⟩
end Go.Proofs.YtnjmilelifmfpaaGreatDoor.Ev

namespace Go.Proofs.YtnjmilelifmfpaaGreatDoor.Ev
open Go Go.RowKit
noncomputable def look : List (Nat × Nat × ACode × List RV) → Tbl
 | [], _ => none
 | (g, x) :: l, f => match Nat.beq f g with | true => some x | false => look l f
inductive AllE (p : Nat × Nat × ACode × List RV → Prop) : List (Nat × Nat × ACode × List RV) → Prop
 | nil : AllE p []
 | cons {e : Nat × Nat × ACode × List RV} {l : List (Nat × Nat × ACode × List RV)} : p e → AllE p l → AllE p (e :: l)
def EntOk (P : Program) : Nat × Nat × ACode × List RV → Prop := fun e => ∃ fn code, fnOk P e.1 = true ∧ P.funcs[e.1]? = some fn ∧ e.2.1 ≤ fn.ntmps ∧ fn.body = some code ∧ comp P fn.ntmps code = some e.2.2.1.strip ∧ rvs P fn.results.toList = some e.2.2.2
theorem look_ok {P : Program} : ∀ {l : List (Nat × Nat × ACode × List RV)}, AllE (EntOk P) l → TblOk P (look l)
 | _, .nil => fun f n ac rs h => by cases h
 | _, .cons (e := e) (l := l) h0 hl => fun f n ac rs h => by
  obtain ⟨g, x⟩ := e
  unfold look at h
  cases hb : Nat.beq f g with
  | true =>
   rw [hb] at h
   cases h
   have := Nat.eq_of_beq_eq_true hb
   subst this
   obtain ⟨fn, code, q1, q2, q3, q4, q5, q6⟩ := h0
   exact ⟨fn, code, q1, q2, q3, q4, q5, q6⟩
  | false =>
   rw [hb] at h
   exact look_ok hl f n ac rs h
theorem ent {P : Program} {f n : Nat} {fn : Func} {ac : ACode} {rs : List RV} (k : ∃ code, P.funcs[f]? = some fn ∧ fn.body = some code ∧ comp P fn.ntmps code = some ac ∧ rvs P fn.results.toList = some rs) (hn : fn.ntmps = n) (hf : fnOk P f = true := by kernel_rfl) (hs : ac.strip = ac := by kernel_rfl) : EntOk P (f, n, ac, rs) := by
 obtain ⟨code, h1, h2, h3, h4⟩ := k
 exact ⟨fn, code, hf, h1, Nat.le_of_eq hn.symm, h2, by rw [h3, hs], h4⟩
noncomputable def tb : Tbl := look [(3, 82, c3, [(.t 4)]), (4, 142, c4, [(.t 4)]), (5, 90, c5, [(.t 4)]), (6, 109, c6, [(.t 4)]), (7, 118, c7, [(.t 4)]), (8, 160, c8, [(.t 4)]), (9, 9, c9, [(.t 4)]), (10, 22, c10, [(.t 2)]), (11, 85, c11, [(.t 0)]), (12, 12, c12, [(.c true 4 2), (.t 3)]), (13, 12, c13, [(.c true 4 2), (.t 3)]), (14, 46, c14, [(.c true 4 4), (.t 5), (.t 6)]), (15, 44, c15, [(.c true 4 4), (.t 5), (.t 6)]), (16, 53, c16, [(.t 4)]), (17, 8, c17, [(.t 4)]), (18, 35, c18, [(.t 6)]), (19, 22, c19, [(.c true 4 2)]), (20, 59, c20, [(.t 2)]), (23, 88, c23, [(.c true 4 2), (.t 3)]), (24, 19, c24, [(.t 2)]), (25, 21, c25, [(.t 2)]), (26, 75, c26, [(.t 6)]), (27, 68, c27, [(.c true 5 4), (.t 5), (.t 6)]), (28, 19, c28, [(.c true 4 2), (.t 3), (.t 4)]), (29, 37, c29, [(.t 2)]), (39, 21, c39, [(.t 2)]), (40, 41, c40, [(.c true 4 4), (.t 5)]), (41, 57, c41, [(.c true 4 2), (.t 3)]), (42, 11, c42, [(.c true 4 6)]), (43, 3, c43, [(.c true 4 0), (.t 1)]), (44, 71, c44, [(.c true 4 6), (.t 7)]), (45, 161, c45, [(.t 6)]), (46, 41, c46, [(.t 2), (.t 3), (.t 4)]), (47, 27, c47, [(.c true 7 4)]), (48, 22, c48, [(.t 2)]), (49, 13, c49, [(.t 2), (.t 3)]), (50, 156, c50, [(.c true 4 4)]), (63, 8, c63, [(.c true 4 4)]), (64, 66, c64, [(.c true 4 8)]), (65, 6, c65, [(.c true 4 2), (.t 3)]), (66, 25, c66, [(.t 2)]), (67, 31, c67, [(.t 2)]), (68, 78, c68, [(.c true 4 4), (.t 5)]), (69, 22, c69, [(.t 4)]), (70, 48, c70, [(.c true 7 4)]), (71, 77, c71, [(.c true 7 4)]), (72, 85, c72, [(.c true 7 4)]), (73, 69, c73, [(.c true 7 6)]), (74, 5, c74, [(.t 2)]), (75, 100, c75, [(.t 8), (.t 9)]), (76, 11, c76, [(.t 2)]), (77, 24, c77, [(.t 4)]), (78, 6, c78, [(.c true 4 2)]), (79, 11, c79, [(.t 4)]), (80, 12, c80, [(.c true 4 6)]), (81, 16, c81, [(.c true 4 0)]), (82, 19, c82, [(.t 4)]), (93, 75, c93, [(.c true 4 6)]), (94, 53, c94, [(.c true 4 6)]), (95, 11, c95, [(.t 2)]), (96, 38, c96, [(.t 4), (.t 5)]), (97, 37, c97, [(.t 4)]), (98, 20, c98, [(.t 2)]), (99, 21, c99, [(.t 2)]), (100, 14, c100, [(.t 4)]), (101, 5, c101, [(.c true 7 2)]), (102, 8, c102, [(.c true 7 4)]), (103, 83, c103, [(.c true 7 4)]), (104, 68, c104, [(.c true 7 4)]), (105, 34, c105, [(.t 6)]), (106, 65, c106, [(.t 4)]), (107, 18, c107, [(.t 4)]), (108, 14, c108, [(.t 2)]), (109, 24, c109, [(.t 4)]), (110, 29, c110, [(.t 2)]), (111, 8, c111, [(.t 2)]), (112, 42, c112, [(.t 6)]), (113, 43, c113, [(.t 4)]), (125, 91, c125, [(.c true 7 4)]), (126, 21, c126, [(.t 4)]), (127, 52, c127, [(.t 2)]), (128, 92, c128, [(.t 2)]), (129, 11, c129, [(.t 4)]), (142, 28, c142, [(.t 4)])]
theorem tb_ok : TblOk Tryz.prog tb := look_ok (.cons (ent k3 Tryz.ntmps3) (.cons (ent k4 Tryz.ntmps4) (.cons (ent k5 Tryz.ntmps5) (.cons (ent k6 Tryz.ntmps6) (.cons (ent k7 Tryz.ntmps7) (.cons (ent k8 Tryz.ntmps8) (.cons (ent k9 Tryz.ntmps9) (.cons (ent k10 Tryz.ntmps10) (.cons (ent k11 Tryz.ntmps11) (.cons (ent k12 Tryz.ntmps12) (.cons (ent k13 Tryz.ntmps13) (.cons (ent k14 Tryz.ntmps14) (.cons (ent k15 Tryz.ntmps15) (.cons (ent k16 Tryz.ntmps16) (.cons (ent k17 Tryz.ntmps17) (.cons (ent k18 Tryz.ntmps18) (.cons (ent k19 Tryz.ntmps19) (.cons (ent k20 Tryz.ntmps20) (.cons (ent k23 Tryz.ntmps23) (.cons (ent k24 Tryz.ntmps24) (.cons (ent k25 Tryz.ntmps25) (.cons (ent k26 Tryz.ntmps26) (.cons (ent k27 Tryz.ntmps27) (.cons (ent k28 Tryz.ntmps28) (.cons (ent k29 Tryz.ntmps29) (.cons (ent k39 Tryz.ntmps39) (.cons (ent k40 Tryz.ntmps40) (.cons (ent k41 Tryz.ntmps41) (.cons (ent k42 Tryz.ntmps42) (.cons (ent k43 Tryz.ntmps43) (.cons (ent k44 Tryz.ntmps44) (.cons (ent k45 Tryz.ntmps45) (.cons (ent k46 Tryz.ntmps46) (.cons (ent k47 Tryz.ntmps47) (.cons (ent k48 Tryz.ntmps48) (.cons (ent k49 Tryz.ntmps49) (.cons (ent k50 Tryz.ntmps50) (.cons (ent k63 Tryz.ntmps63) (.cons (ent k64 Tryz.ntmps64) (.cons (ent k65 Tryz.ntmps65) (.cons (ent k66 Tryz.ntmps66) (.cons (ent k67 Tryz.ntmps67) (.cons (ent k68 Tryz.ntmps68) (.cons (ent k69 Tryz.ntmps69) (.cons (ent k70 Tryz.ntmps70) (.cons (ent k71 Tryz.ntmps71) (.cons (ent k72 Tryz.ntmps72) (.cons (ent k73 Tryz.ntmps73) (.cons (ent k74 Tryz.ntmps74) (.cons (ent k75 Tryz.ntmps75) (.cons (ent k76 Tryz.ntmps76) (.cons (ent k77 Tryz.ntmps77) (.cons (ent k78 Tryz.ntmps78) (.cons (ent k79 Tryz.ntmps79) (.cons (ent k80 Tryz.ntmps80) (.cons (ent k81 Tryz.ntmps81) (.cons (ent k82 Tryz.ntmps82) (.cons (ent k93 Tryz.ntmps93) (.cons (ent k94 Tryz.ntmps94) (.cons (ent k95 Tryz.ntmps95) (.cons (ent k96 Tryz.ntmps96) (.cons (ent k97 Tryz.ntmps97) (.cons (ent k98 Tryz.ntmps98) (.cons (ent k99 Tryz.ntmps99) (.cons (ent k100 Tryz.ntmps100) (.cons (ent k101 Tryz.ntmps101) (.cons (ent k102 Tryz.ntmps102) (.cons (ent k103 Tryz.ntmps103) (.cons (ent k104 Tryz.ntmps104) (.cons (ent k105 Tryz.ntmps105) (.cons (ent k106 Tryz.ntmps106) (.cons (ent k107 Tryz.ntmps107) (.cons (ent k108 Tryz.ntmps108) (.cons (ent k109 Tryz.ntmps109) (.cons (ent k110 Tryz.ntmps110) (.cons (ent k111 Tryz.ntmps111) (.cons (ent k112 Tryz.ntmps112) (.cons (ent k113 Tryz.ntmps113) (.cons (ent k125 Tryz.ntmps125) (.cons (ent k126 Tryz.ntmps126) (.cons (ent k127 Tryz.ntmps127) (.cons (ent k128 Tryz.ntmps128) (.cons (ent k129 Tryz.ntmps129) (.cons (ent k142 Tryz.ntmps142) (.nil)))))))))))))))))))))))))))))))))))))))))))))))))))))))))))))))))))))))))))))))))))))
end Go.Proofs.YtnjmilelifmfpaaGreatDoor.Ev

namespace Go.Proofs.YtnjmilelifmfpaaGreatDoor.Ev
open Go Go.RowKit
open HCore (wt wts may same height heights size sizes)
open Go.Proofs.YtnjmilelifmfpaaGreatDoor.HSub (hstep)
set_option linter.unusedSimpArgs false
set_option linter.unusedVariables false
mutual
noncomputable def decC : List AV → Option Tm
 | [.s (.int .i64 k), .s (.int .i64 n), .s (.string s), .row xs] => (decR xs).map fun l => ⟨k, n, s, l⟩
 | _ => none
noncomputable def decR : List (List AV) → Option (List Tm)
 | [] => some []
 | c :: r => match decC c, decR r with
  | some x, some l => some (x :: l)
  | _, _ => none
end
mutual
theorem decC_is : ∀ (cs : List AV) (x : Tm), decC cs = some x → cs = encT x
 | [.s (.int .i64 k), .s (.int .i64 n), .s (.string s), .row xs], x, h => by
  rw [decC] at h
  simp only [Option.map_eq_some_iff] at h
  obtain ⟨l, hl, rfl⟩ := h
  rw [decR_is xs l hl]; rfl
 | cs, x, h => by
  unfold decC at h
  split at h
  ·rename_i k n s xs
   simp only [Option.map_eq_some_iff] at h
   obtain ⟨l, hl, rfl⟩ := h
   rw [decR_is xs l hl]; rfl
  ·cases h
theorem decR_is : ∀ (xs : List (List AV)) (l : List Tm), decR xs = some l → xs = encTs l
 | [], l, h => by simp only [decR, Option.some.injEq] at h; subst h; rfl
 | c :: r, l, h => by
  rw [decR] at h
  split at h
  ·rename_i x l' h1 h2
   cases h
   rw [decC_is c x h1, decR_is r l' h2]; rfl
  ·cases h
end
noncomputable def ext9 (f : FuncId) (args : List AV) : Option AOut :=
 match Nat.beq f 21 with
 | true => match args with
  | [.agg cs, .s (.int .i64 free)] => match decC cs with
   | some x => if wt x ≤ 1000000000 ∧ -1000000000 ≤ free ∧ free + 9 * (height x : Int) ≤ 9000000000000000000 then some (.ret (.s (.bool (may x free)))) else none
   | none => none
  | _ => none
 | false => match Nat.beq f 22 with
  | true => match args with
   | [.agg cs] => match decC cs with
    | some x => if may x Pure.Hd.freeT = true ∧ size x ≤ 1000000 then some (.ret (.tup [.agg (encT (hstep x).1), .s (.int .i64 (hstep x).2)])) else none
    | none => none
   | _ => none
  | false => none
theorem ext9_ok {J : JW} (hJ : JOk J) (f : FuncId) (args : List AV) (out : AOut) (h : ext9 f args = some out) : fnOk Tryz.prog f = true ∧ OkAt Tryz.prog J f args out := by
 unfold ext9 at h
 split at h
 ·rename_i hb
  have := Nat.eq_of_beq_eq_true hb
  subst this
  refine ⟨by kernel_rfl, ?_⟩
  split at h
  ·rename_i cs free
   split at h
   ·rename_i x hx
    split at h
    ·rename_i hc
     cases h
     exact c_may hJ _ _ ⟨x, free, by rw [decC_is _ _ hx], hc.1, hc.2.1, hc.2.2, rfl⟩
    ·cases h
   ·cases h
  ·cases h
 ·split at h
  ·rename_i hb
   have := Nat.eq_of_beq_eq_true hb
   subst this
   refine ⟨by kernel_rfl, ?_⟩
   split at h
   ·rename_i cs
    split at h
    ·rename_i x hx
     split at h
     ·rename_i hc
      cases h
      exact c_step hJ _ _ ⟨x, by rw [decC_is _ _ hx], hc.1, hc.2, rfl⟩
     ·cases h
    ·cases h
   ·cases h
  ·cases h
noncomputable def inf : Inf := ⟨[9], [(3, .i64), (5, .u8), (30, .i64)]⟩
theorem inf_ok : InfOk Tryz.prog inf := by
 constructor
 ·intro t h
  have : t = 9 := by
   have e : hasN [9] t = cnd (Nat.beq 9 t) true false := rfl
   rw [show inf.str = [9] from rfl, e] at h
   cases hb : Nat.beq 9 t with
   | true => exact (Nat.eq_of_beq_eq_true hb).symm
   | false => rw [hb] at h; cases h
  subst this; exact Tryz.underlying9
 ·intro t k h
  have e : kindN inf.int t = cnd (Nat.beq 3 t) (some .i64) (cnd (Nat.beq 5 t) (some .u8) (cnd (Nat.beq 30 t) (some .i64) none)) := rfl
  rw [e] at h
  cases h3 : Nat.beq 3 t with
  | true => rw [h3] at h; cases h; have := Nat.eq_of_beq_eq_true h3; subst this; exact Tryz.underlying3
  | false =>
   rw [h3] at h
   cases h5 : Nat.beq 5 t with
   | true => rw [h5] at h; cases h; have := Nat.eq_of_beq_eq_true h5; subst this; exact Tryz.underlying5
   | false =>
    rw [h5] at h
    cases h6 : Nat.beq 30 t with
    | true => rw [h6] at h; cases h; have := Nat.eq_of_beq_eq_true h6; subst this; exact Tryz.underlying30
    | false => rw [h6] at h; cases h
noncomputable def runs (n : Nat) (f : FuncId) (args : List AV) : Option AOut := icall Tryz.prog tb ext9 (run Tryz.prog inf tb ext9 n) f args
theorem runs_ok {J : JW} (hJ : JOk J) {n : Nat} {f : FuncId} {args : List AV} {out : AOut} (h : runs n f args = some out) : fnOk Tryz.prog f = true ∧ OkAt Tryz.prog J f args out :=
 upto_ok inf_ok hJ tb_ok (fun f args out _ h => ext9_ok hJ f args out h) (n + 1) f args out ⟨n, Nat.lt_succ_self n, h⟩
end Go.Proofs.YtnjmilelifmfpaaGreatDoor.Ev

namespace Go.Proofs.YtnjmilelifmfpaaGreatDoor.Ev
open Go Go.RowKit
set_option maxRecDepth 1000000
noncomputable def of0 : List AV := [(.s (.int .i64 3)), (.s (.int .i64 0)), (.s (.string ⟨#[]⟩)), (.row [[(.s (.int .i64 2)), (.s (.int .i64 0)), (.s (.string ⟨#[]⟩)), (.row [[(.s (.int .i64 1)), (.s (.int .i64 0)), (.s (.string ⟨#[]⟩)), (.row [])]])], [(.s (.int .i64 7)), (.s (.int .i64 1)), (.s (.string ⟨#[]⟩)), (.row [])]])]
theorem of0_runs : runs 100000 19 [.s (.string ⟨#[40, 92, 120, 46, 32, 120, 41, 32, 49]⟩)] = some (.ret (.agg of0)) := by kernel_rfl
noncomputable def of1 : List AV := [(.s (.int .i64 5)), (.s (.int .i64 0)), (.s (.string ⟨#[]⟩)), (.row [[(.s (.int .i64 4)), (.s (.int .i64 0)), (.s (.string ⟨#[65]⟩)), (.row [[(.s (.int .i64 7)), (.s (.int .i64 2)), (.s (.string ⟨#[]⟩)), (.row [])], [(.s (.int .i64 7)), (.s (.int .i64 3)), (.s (.string ⟨#[]⟩)), (.row [])]])], [(.s (.int .i64 6)), (.s (.int .i64 2)), (.s (.string ⟨#[65]⟩)), (.row [[(.s (.int .i64 8)), (.s (.int .i64 0)), (.s (.string ⟨#[45]⟩)), (.row [[(.s (.int .i64 1)), (.s (.int .i64 1)), (.s (.string ⟨#[]⟩)), (.row [])], [(.s (.int .i64 1)), (.s (.int .i64 0)), (.s (.string ⟨#[]⟩)), (.row [])]])]])]])]
theorem of1_runs : runs 100000 19 [.s (.string ⟨#[99, 97, 115, 101, 32, 65, 32, 50, 32, 51, 32, 111, 102, 32, 123, 32, 65, 32, 120, 32, 121, 32, 45, 62, 32, 120, 32, 45, 32, 121, 32, 125]⟩)] = some (.ret (.agg of1)) := by kernel_rfl
noncomputable def of2 : List AV := [(.s (.int .i64 8)), (.s (.int .i64 0)), (.s (.string ⟨#[47]⟩)), (.row [[(.s (.int .i64 7)), (.s (.int .i64 1)), (.s (.string ⟨#[]⟩)), (.row [])], [(.s (.int .i64 7)), (.s (.int .i64 0)), (.s (.string ⟨#[]⟩)), (.row [])]])]
theorem of2_runs : runs 100000 19 [.s (.string ⟨#[49, 32, 47, 32, 48]⟩)] = some (.ret (.agg of2)) := by kernel_rfl
noncomputable def of3 : List AV := [(.s (.int .i64 3)), (.s (.int .i64 0)), (.s (.string ⟨#[]⟩)), (.row [[(.s (.int .i64 7)), (.s (.int .i64 1)), (.s (.string ⟨#[]⟩)), (.row [])], [(.s (.int .i64 7)), (.s (.int .i64 2)), (.s (.string ⟨#[]⟩)), (.row [])]])]
theorem of3_runs : runs 100000 19 [.s (.string ⟨#[49, 32, 50]⟩)] = some (.ret (.agg of3)) := by kernel_rfl
noncomputable def of4 : List AV := [(.s (.int .i64 3)), (.s (.int .i64 0)), (.s (.string ⟨#[]⟩)), (.row [[(.s (.int .i64 2)), (.s (.int .i64 0)), (.s (.string ⟨#[]⟩)), (.row [[(.s (.int .i64 3)), (.s (.int .i64 0)), (.s (.string ⟨#[]⟩)), (.row [[(.s (.int .i64 1)), (.s (.int .i64 0)), (.s (.string ⟨#[]⟩)), (.row [])], [(.s (.int .i64 7)), (.s (.int .i64 5)), (.s (.string ⟨#[]⟩)), (.row [])]])]])], [(.s (.int .i64 3)), (.s (.int .i64 0)), (.s (.string ⟨#[]⟩)), (.row [[(.s (.int .i64 2)), (.s (.int .i64 0)), (.s (.string ⟨#[]⟩)), (.row [[(.s (.int .i64 3)), (.s (.int .i64 0)), (.s (.string ⟨#[]⟩)), (.row [[(.s (.int .i64 2)), (.s (.int .i64 0)), (.s (.string ⟨#[]⟩)), (.row [[(.s (.int .i64 3)), (.s (.int .i64 0)), (.s (.string ⟨#[]⟩)), (.row [[(.s (.int .i64 1)), (.s (.int .i64 1)), (.s (.string ⟨#[]⟩)), (.row [])], [(.s (.int .i64 3)), (.s (.int .i64 0)), (.s (.string ⟨#[]⟩)), (.row [[(.s (.int .i64 1)), (.s (.int .i64 0)), (.s (.string ⟨#[]⟩)), (.row [])], [(.s (.int .i64 1)), (.s (.int .i64 0)), (.s (.string ⟨#[]⟩)), (.row [])]])]])]])], [(.s (.int .i64 2)), (.s (.int .i64 0)), (.s (.string ⟨#[]⟩)), (.row [[(.s (.int .i64 3)), (.s (.int .i64 0)), (.s (.string ⟨#[]⟩)), (.row [[(.s (.int .i64 1)), (.s (.int .i64 1)), (.s (.string ⟨#[]⟩)), (.row [])], [(.s (.int .i64 3)), (.s (.int .i64 0)), (.s (.string ⟨#[]⟩)), (.row [[(.s (.int .i64 1)), (.s (.int .i64 0)), (.s (.string ⟨#[]⟩)), (.row [])], [(.s (.int .i64 1)), (.s (.int .i64 0)), (.s (.string ⟨#[]⟩)), (.row [])]])]])]])]])]])], [(.s (.int .i64 2)), (.s (.int .i64 0)), (.s (.string ⟨#[]⟩)), (.row [[(.s (.int .i64 2)), (.s (.int .i64 0)), (.s (.string ⟨#[]⟩)), (.row [[(.s (.int .i64 5)), (.s (.int .i64 0)), (.s (.string ⟨#[]⟩)), (.row [[(.s (.int .i64 8)), (.s (.int .i64 0)), (.s (.string ⟨#[61, 61]⟩)), (.row [[(.s (.int .i64 1)), (.s (.int .i64 0)), (.s (.string ⟨#[]⟩)), (.row [])], [(.s (.int .i64 7)), (.s (.int .i64 0)), (.s (.string ⟨#[]⟩)), (.row [])]])], [(.s (.int .i64 6)), (.s (.int .i64 0)), (.s (.string ⟨#[84, 114, 117, 101]⟩)), (.row [[(.s (.int .i64 7)), (.s (.int .i64 1)), (.s (.string ⟨#[]⟩)), (.row [])]])], [(.s (.int .i64 6)), (.s (.int .i64 0)), (.s (.string ⟨#[70, 97, 108, 115, 101]⟩)), (.row [[(.s (.int .i64 8)), (.s (.int .i64 0)), (.s (.string ⟨#[42]⟩)), (.row [[(.s (.int .i64 1)), (.s (.int .i64 0)), (.s (.string ⟨#[]⟩)), (.row [])], [(.s (.int .i64 3)), (.s (.int .i64 0)), (.s (.string ⟨#[]⟩)), (.row [[(.s (.int .i64 1)), (.s (.int .i64 1)), (.s (.string ⟨#[]⟩)), (.row [])], [(.s (.int .i64 8)), (.s (.int .i64 0)), (.s (.string ⟨#[45]⟩)), (.row [[(.s (.int .i64 1)), (.s (.int .i64 0)), (.s (.string ⟨#[]⟩)), (.row [])], [(.s (.int .i64 7)), (.s (.int .i64 1)), (.s (.string ⟨#[]⟩)), (.row [])]])]])]])]])]])]])]])]])]])]
theorem of4_runs : runs 100000 19 [.s (.string ⟨#[108, 101, 116, 114, 101, 99, 32, 102, 32, 61, 32, 92, 110, 46, 32, 99, 97, 115, 101, 32, 110, 32, 61, 61, 32, 48, 32, 111, 102, 32, 123, 32, 84, 114, 117, 101, 32, 45, 62, 32, 49, 32, 124, 32, 70, 97, 108, 115, 101, 32, 45, 62, 32, 110, 32, 42, 32, 102, 32, 40, 110, 32, 45, 32, 49, 41, 32, 125, 32, 105, 110, 32, 102, 32, 53]⟩)] = some (.ret (.agg of4)) := by kernel_rfl
noncomputable def of5 : List AV := [(.s (.int .i64 3)), (.s (.int .i64 0)), (.s (.string ⟨#[]⟩)), (.row [[(.s (.int .i64 2)), (.s (.int .i64 0)), (.s (.string ⟨#[]⟩)), (.row [[(.s (.int .i64 4)), (.s (.int .i64 0)), (.s (.string ⟨#[65]⟩)), (.row [[(.s (.int .i64 3)), (.s (.int .i64 0)), (.s (.string ⟨#[]⟩)), (.row [[(.s (.int .i64 1)), (.s (.int .i64 0)), (.s (.string ⟨#[]⟩)), (.row [])], [(.s (.int .i64 1)), (.s (.int .i64 0)), (.s (.string ⟨#[]⟩)), (.row [])]])]])]])], [(.s (.int .i64 7)), (.s (.int .i64 3)), (.s (.string ⟨#[]⟩)), (.row [])]])]
theorem of5_runs : runs 100000 19 [.s (.string ⟨#[40, 92, 120, 46, 32, 65, 32, 40, 120, 32, 120, 41, 41, 32, 51]⟩)] = some (.ret (.agg of5)) := by kernel_rfl
noncomputable def of6 : List AV := [(.s (.int .i64 5)), (.s (.int .i64 0)), (.s (.string ⟨#[]⟩)), (.row [[(.s (.int .i64 7)), (.s (.int .i64 1)), (.s (.string ⟨#[]⟩)), (.row [])], [(.s (.int .i64 6)), (.s (.int .i64 0)), (.s (.string ⟨#[65]⟩)), (.row [[(.s (.int .i64 7)), (.s (.int .i64 1)), (.s (.string ⟨#[]⟩)), (.row [])]])]])]
theorem of6_runs : runs 100000 19 [.s (.string ⟨#[99, 97, 115, 101, 32, 49, 32, 111, 102, 32, 123, 32, 65, 32, 45, 62, 32, 49, 32, 125]⟩)] = some (.ret (.agg of6)) := by kernel_rfl
noncomputable def of7 : List AV := [(.s (.int .i64 5)), (.s (.int .i64 0)), (.s (.string ⟨#[]⟩)), (.row [[(.s (.int .i64 4)), (.s (.int .i64 0)), (.s (.string ⟨#[65]⟩)), (.row [])], [(.s (.int .i64 6)), (.s (.int .i64 0)), (.s (.string ⟨#[66]⟩)), (.row [[(.s (.int .i64 7)), (.s (.int .i64 1)), (.s (.string ⟨#[]⟩)), (.row [])]])]])]
theorem of7_runs : runs 100000 19 [.s (.string ⟨#[99, 97, 115, 101, 32, 65, 32, 111, 102, 32, 123, 32, 66, 32, 45, 62, 32, 49, 32, 125]⟩)] = some (.ret (.agg of7)) := by kernel_rfl
noncomputable def of8 : List AV := [(.s (.int .i64 8)), (.s (.int .i64 0)), (.s (.string ⟨#[43]⟩)), (.row [[(.s (.int .i64 4)), (.s (.int .i64 0)), (.s (.string ⟨#[65]⟩)), (.row [])], [(.s (.int .i64 7)), (.s (.int .i64 1)), (.s (.string ⟨#[]⟩)), (.row [])]])]
theorem of8_runs : runs 100000 19 [.s (.string ⟨#[65, 32, 43, 32, 49]⟩)] = some (.ret (.agg of8)) := by kernel_rfl
noncomputable def of9 : List AV := [(.s (.int .i64 8)), (.s (.int .i64 0)), (.s (.string ⟨#[45]⟩)), (.row [[(.s (.int .i64 8)), (.s (.int .i64 0)), (.s (.string ⟨#[47]⟩)), (.row [[(.s (.int .i64 7)), (.s (.int .i64 7)), (.s (.string ⟨#[]⟩)), (.row [])], [(.s (.int .i64 7)), (.s (.int .i64 2)), (.s (.string ⟨#[]⟩)), (.row [])]])], [(.s (.int .i64 7)), (.s (.int .i64 9)), (.s (.string ⟨#[]⟩)), (.row [])]])]
theorem of9_runs : runs 100000 19 [.s (.string ⟨#[55, 32, 47, 32, 50, 32, 45, 32, 57]⟩)] = some (.ret (.agg of9)) := by kernel_rfl
noncomputable def of10 : List AV := [(.s (.int .i64 3)), (.s (.int .i64 0)), (.s (.string ⟨#[]⟩)), (.row [[(.s (.int .i64 2)), (.s (.int .i64 0)), (.s (.string ⟨#[]⟩)), (.row [[(.s (.int .i64 3)), (.s (.int .i64 0)), (.s (.string ⟨#[]⟩)), (.row [[(.s (.int .i64 1)), (.s (.int .i64 0)), (.s (.string ⟨#[]⟩)), (.row [])], [(.s (.int .i64 1)), (.s (.int .i64 0)), (.s (.string ⟨#[]⟩)), (.row [])]])]])], [(.s (.int .i64 2)), (.s (.int .i64 0)), (.s (.string ⟨#[]⟩)), (.row [[(.s (.int .i64 3)), (.s (.int .i64 0)), (.s (.string ⟨#[]⟩)), (.row [[(.s (.int .i64 1)), (.s (.int .i64 0)), (.s (.string ⟨#[]⟩)), (.row [])], [(.s (.int .i64 1)), (.s (.int .i64 0)), (.s (.string ⟨#[]⟩)), (.row [])]])]])]])]
theorem of10_runs : runs 100000 19 [.s (.string ⟨#[40, 92, 120, 46, 32, 120, 32, 120, 41, 32, 40, 92, 120, 46, 32, 120, 32, 120, 41]⟩)] = some (.ret (.agg of10)) := by kernel_rfl
noncomputable def of11 : List AV := [(.s (.int .i64 2)), (.s (.int .i64 0)), (.s (.string ⟨#[]⟩)), (.row [[(.s (.int .i64 3)), (.s (.int .i64 0)), (.s (.string ⟨#[]⟩)), (.row [[(.s (.int .i64 1)), (.s (.int .i64 0)), (.s (.string ⟨#[]⟩)), (.row [])], [(.s (.int .i64 7)), (.s (.int .i64 1)), (.s (.string ⟨#[]⟩)), (.row [])]])]])]
theorem of11_runs : runs 100000 19 [.s (.string ⟨#[92, 120, 46, 32, 120, 32, 49]⟩)] = some (.ret (.agg of11)) := by kernel_rfl
end Go.Proofs.YtnjmilelifmfpaaGreatDoor.Ev

namespace Go.Proofs.YtnjmilelifmfpaaGreatDoor.Ev
open Go Go.RowKit
noncomputable def ofs : List (ByteArray × List AV) := [(⟨#[40, 92, 120, 46, 32, 120, 41, 32, 49]⟩, of0), (⟨#[99, 97, 115, 101, 32, 65, 32, 50, 32, 51, 32, 111, 102, 32, 123, 32, 65, 32, 120, 32, 121, 32, 45, 62, 32, 120, 32, 45, 32, 121, 32, 125]⟩, of1), (⟨#[49, 32, 47, 32, 48]⟩, of2), (⟨#[49, 32, 50]⟩, of3), (⟨#[108, 101, 116, 114, 101, 99, 32, 102, 32, 61, 32, 92, 110, 46, 32, 99, 97, 115, 101, 32, 110, 32, 61, 61, 32, 48, 32, 111, 102, 32, 123, 32, 84, 114, 117, 101, 32, 45, 62, 32, 49, 32, 124, 32, 70, 97, 108, 115, 101, 32, 45, 62, 32, 110, 32, 42, 32, 102, 32, 40, 110, 32, 45, 32, 49, 41, 32, 125, 32, 105, 110, 32, 102, 32, 53]⟩, of4), (⟨#[40, 92, 120, 46, 32, 65, 32, 40, 120, 32, 120, 41, 41, 32, 51]⟩, of5), (⟨#[99, 97, 115, 101, 32, 49, 32, 111, 102, 32, 123, 32, 65, 32, 45, 62, 32, 49, 32, 125]⟩, of6), (⟨#[99, 97, 115, 101, 32, 65, 32, 111, 102, 32, 123, 32, 66, 32, 45, 62, 32, 49, 32, 125]⟩, of7), (⟨#[65, 32, 43, 32, 49]⟩, of8), (⟨#[55, 32, 47, 32, 50, 32, 45, 32, 57]⟩, of9), (⟨#[40, 92, 120, 46, 32, 120, 32, 120, 41, 32, 40, 92, 120, 46, 32, 120, 32, 120, 41]⟩, of10), (⟨#[92, 120, 46, 32, 120, 32, 49]⟩, of11)]
theorem ofs_ok : ∀ p ∈ ofs, runs 100000 19 [.s (.string p.1)] = some (.ret (.agg p.2)) := by
 intro p hp
 simp only [ofs, List.mem_cons, List.mem_nil_iff, or_false] at hp
 rcases hp with rfl|rfl|rfl|rfl|rfl|rfl|rfl|rfl|rfl|rfl|rfl|rfl
 ·exact of0_runs
 ·exact of1_runs
 ·exact of2_runs
 ·exact of3_runs
 ·exact of4_runs
 ·exact of5_runs
 ·exact of6_runs
 ·exact of7_runs
 ·exact of8_runs
 ·exact of9_runs
 ·exact of10_runs
 ·exact of11_runs
noncomputable def ofl (b : ByteArray) : List (ByteArray × List AV) → Option (List AV)
 | [] => none
 | (s, c) :: r => match decide (b = s) with | true => some c | false => ofl b r
theorem ofl_mem {b : ByteArray} {c : List AV} : ∀ {l : List (ByteArray × List AV)}, ofl b l = some c → (b, c) ∈ l
 | (s, d) :: r, h => by
  simp only [ofl] at h
  split at h
  ·rename_i hb; cases h; rw [of_decide_eq_true hb]; exact List.mem_cons_self ..
  ·exact List.mem_cons_of_mem _ (ofl_mem h)
noncomputable def tbF : Tbl := fun f => match Nat.beq f 19 with | true => none | false => tb f
noncomputable def extF (f : FuncId) (args : List AV) : Option AOut := match Nat.beq f 19 with
 | true => match args with | [.s (.string b)] => (ofl b ofs).map fun c => .ret (.agg c) | _ => none
 | false => ext9 f args
theorem tbF_ok : TblOk Tryz.prog tbF := by
 intro f n ac rs h
 unfold tbF at h
 split at h
 ·cases h
 ·exact tb_ok f n ac rs h
theorem extF_ok {J : JW} (hJ : JOk J) (f : FuncId) (args : List AV) (out : AOut) (h : extF f args = some out) : fnOk Tryz.prog f = true ∧ OkAt Tryz.prog J f args out := by
 unfold extF at h
 split at h
 ·rename_i hb
  have := Nat.eq_of_beq_eq_true hb
  subst this
  split at h
  ·simp only [Option.map_eq_some_iff] at h
   obtain ⟨c, hc, rfl⟩ := h
   exact runs_ok hJ (ofs_ok _ (ofl_mem hc))
  ·cases h
 ·exact ext9_ok hJ f args out h
end Go.Proofs.YtnjmilelifmfpaaGreatDoor.Ev

namespace Go.Proofs.YtnjmilelifmfpaaGreatDoor.Ev
open Go Go.RowKit
open HCore (wt wts may same height heights size sizes)
set_option linter.unusedVariables false
noncomputable def tbG : Tbl := fun f => match Nat.beq f 14 with | true => none | false => match Nat.beq f 12 with | true => none | false => tbF f
noncomputable def runG (x : Tm) (fuel : Int) : AOut := match runF x fuel with | (y, n, e) => .ret (.tup [.agg (encT y), .s (.int .i64 n), .s (.int .i64 e)])
noncomputable def stepG (x : Tm) : AOut := match stepF x with | (y, n) => .ret (.tup [.agg (encT y), .s (.int .i64 n)])
noncomputable def extG (f : FuncId) (args : List AV) : Option AOut := match Nat.beq f 14 with
 | true => match args with
  | [.agg cs, .s (.int .i64 fuel)] => match decC cs with
   | some x => if wt x ≤ 1000000000 ∧ size x ≤ 1000000 then some (runG x fuel) else none
   | none => none
  | _ => none
 | false => match Nat.beq f 12 with
  | true => match args with
   | [.agg cs] => match decC cs with
    | some x => if wt x ≤ 1000000000 ∧ size x ≤ 1000000 then some (stepG x) else none
    | none => none
   | _ => none
  | false => extF f args
theorem tbG_ok : TblOk Tryz.prog tbG := by
 intro f n ac rs h
 unfold tbG at h
 split at h
 ·cases h
 ·split at h
  ·cases h
  ·exact tbF_ok f n ac rs h
theorem extG_ok {J : JW} (hJ : JOk J) (f : FuncId) (args : List AV) (out : AOut) (h : extG f args = some out) : fnOk Tryz.prog f = true ∧ OkAt Tryz.prog J f args out := by
 unfold extG at h
 split at h
 ·rename_i hb
  have := Nat.eq_of_beq_eq_true hb
  subst this
  refine ⟨by kernel_rfl, ?_⟩
  split at h
  ·rename_i cs fuel
   split at h
   ·rename_i x hx
    split at h
    ·rename_i hc
     cases h
     exact c_hrun hJ _ _ ⟨x, fuel, by rw [decC_is _ _ hx], hc.1, hc.2, rfl⟩
    ·cases h
   ·cases h
  ·cases h
 ·split at h
  ·rename_i hb
   have := Nat.eq_of_beq_eq_true hb
   subst this
   refine ⟨by kernel_rfl, ?_⟩
   split at h
   ·rename_i cs
    split at h
    ·rename_i x hx
     split at h
     ·rename_i hc
      cases h
      exact c_hstep hJ _ _ ⟨x, by rw [decC_is _ _ hx], hc.1, hc.2, rfl⟩
     ·cases h
    ·cases h
   ·cases h
  ·exact extF_ok hJ f args out h
noncomputable def runsG (n : Nat) (f : FuncId) (args : List AV) : Option AOut := icall Tryz.prog tbG extG (run Tryz.prog inf tbG extG n) f args
theorem runsG_ok {J : JW} (hJ : JOk J) {n : Nat} {f : FuncId} {args : List AV} {out : AOut} (h : runsG n f args = some out) : fnOk Tryz.prog f = true ∧ OkAt Tryz.prog J f args out :=
 upto_ok inf_ok hJ tbG_ok (fun f args out _ h => extG_ok hJ f args out h) (n + 1) f args out ⟨n, Nat.lt_succ_self n, h⟩
set_option maxRecDepth 1000000 in
theorem fixed_runs : runsG 100000 11 [] = some (.ret (.s (.bool true))) := by kernel_rfl
theorem c_fixed {J : JW} (hJ : JOk J) : Con Tryz.prog J 11 fun args out => args = [] ∧ out = .ret (.s (.bool true)) := by
 rintro args out ⟨rfl, rfl⟩
 exact (runsG_ok hJ fixed_runs).2
end Go.Proofs.YtnjmilelifmfpaaGreatDoor.Ev

/- Reading an argument: what the model's reading of a value gives, kind by kind: the Lean value, its bounds, and its weight (at most the reading's bulk). -/
namespace Go.Proofs.YtnjmilelifmfpaaGreatDoor.HRead
open Go Go.RowKit Go.Lib Go.Proofs.YtnjmilelifmfpaaGreatDoorW.PrintWords Go.Proofs.YtnjmilelifmfpaaGreatDoorW.PrintLast Go.Proofs.YtnjmilelifmfpaaGreatDoorW.PrintMore
set_option linter.unusedVariables false

def Rd {α : Type} (P : Program) (d : Kd α) (t : TypeId) (ok : α → Prop) (wt : α → Nat) (n : Nat) : Prop :=
 ∀ {H : Type} (enc : TypeId × Value → H) (w : World) (base : Nat) (spare : Nat → Bool) (held : Bool) (cs : List Value) (x : DataW H × List MemPlace),
  DataW.trod enc P w base spare held n t cs = some x → ∃ y, d.K w y cs ∧ ok y ∧ wt y ≤ Rows.uptoBulk x.1
def RdF {α : Type} (P : Program) (d : Kd α) (fs : List Field) (o : Nat) (ok : α → Prop) (wt : α → Nat) (n : Nat) : Prop :=
 ∀ {H : Type} (enc : TypeId × Value → H) (w : World) (base : Nat) (spare : Nat → Bool) (held : Bool) (cs : List Value) (xs : List (DataW H × List MemPlace)), xs.length = fs.length →
  (∀ (i : Nat) (f : Field), fs[i]? = some f → DataW.trod enc P w base spare held n f.type ((cs.drop f.offset).take (P.cellsOf f.type)) = xs[i]?) →
  ∃ y, d.K w y ((cs.drop o).take d.sz) ∧ ok y ∧ wt y ≤ Rows.uptoBulkAll (xs.map (·.1))

theorem list_of {α : Type} {p : Nat → α → Prop} : ∀ n, (∀ i, i < n → ∃ y, p i y) → ∃ ys : List α, ys.length = n ∧ ∀ i y, ys[i]? = some y → p i y
 | 0, _ => ⟨[], rfl, fun i y h => by simp at h⟩
 | n + 1, h => by
  obtain ⟨ys, hl, hp⟩ := list_of n fun i hi => h i (by omega)
  obtain ⟨y, hy⟩ := h n (by omega)
  refine ⟨ys ++ [y], by simp [hl], fun i z hz => ?_⟩
  by_cases hi : i < n
  ·rw [List.getElem?_append_left (by omega)] at hz; exact hp i z hz
  ·rw [List.getElem?_append_right (by omega)] at hz
   have h0 : i - ys.length = 0 := by
    have := (List.getElem?_eq_some_iff.1 hz).1
    simp at this; omega
   rw [h0] at hz
   obtain rfl : y = z := by simpa using hz
   obtain rfl : i = n := by omega
   exact hy
theorem bulk_sum {α H : Type} (wt : α → Nat) : ∀ (ys : List α) (ds : List (DataW H)), ys.length = ds.length → (∀ (i : Nat) (y : α) (d : DataW H), ys[i]? = some y → ds[i]? = some d → wt y ≤ Rows.uptoBulk d) → (ys.map wt).sum ≤ Rows.uptoBulkAll ds
 | [], ds, _, _ => by simp
 | y :: ys, [], h, _ => by simp at h
 | y :: ys, d :: ds, h, hp => by
  have h1 := hp 0 y d rfl rfl
  have h2 := bulk_sum wt ys ds (by simpa using h) fun i z e hz he => hp (i + 1) z e hz he
  simp only [List.map_cons, List.sum_cons, Rows.uptoBulkAll]
  omega

section
variable {P : Program} {t e : TypeId} {n : Nat}
theorem rd_zero {α : Type} {d : Kd α} {ok : α → Prop} {wt : α → Nat} : Rd P d t ok wt 0 := fun enc w base spare held cs x h => by simp [DataW.trod] at h
theorem rd_int {k : IntKind} (ht : P.underlying t = some (.int k)) : Rd P (Kd.int k) t (fun m => (Lit.int k m).wf = true) (fun _ => 1) n := by
 intro H enc w base spare held cs x h
 obtain ⟨m, rfl, rfl, hw⟩ := DataW.trod_int ht h
 exact ⟨m, rfl, hw, by simp [Rows.uptoBulk]⟩
theorem rd_string (ht : P.underlying t = some .string) : Rd P Kd.string t (fun _ => True) (fun s => s.size + 1) n := by
 intro H enc w base spare held cs x h
 obtain ⟨s, rfl, rfl, hs⟩ := DataW.trod_string ht h
 exact ⟨s, rfl, trivial, by simp [Rows.uptoBulk]⟩
theorem rd_slice {α : Type} {d : Kd α} {ok : α → Prop} {wt : α → Nat} (ht : P.underlying t = some (.slice e)) (hc : P.cellsOf e = d.sz) (h : Rd P d e ok wt n) :
  Rd P (Kd.slice e d) t (fun ys => (∀ y ∈ ys, ok y) ∧ ys.length ≤ 9223372036854775807) (fun ys => (ys.map wt).sum + 1) (n + 1) := by
 intro H enc w base spare held cs x hx
 rcases DataW.trod_slice ht hx with ⟨rfl, rfl⟩ | ⟨a, len, cap, elems, rest, m, hm, rfl, rfl, hb, hl, hmax, hel, hget, _, _⟩
 ·exact ⟨[], ⟨none, 0, rfl, Nat.le_refl _, rfl, by simp, fun h0 => absurd h0 (by simp)⟩, ⟨by simp, by simp⟩, by simp [Rows.uptoBulk]⟩
 ·obtain rfl : n = m := by omega
  rw [hc] at hget
  have hmax' : cap ≤ 9223372036854775807 := hmax
  have key : ∀ i, i < len → ∃ y, ∃ cs' x', elems[i]? = some x' ∧ w.cells? base (a.add (i * d.sz)) d.sz = some cs' ∧ d.K w y cs' ∧ ok y ∧ wt y ≤ Rows.uptoBulk x'.1 := by
   intro i hi
   have h1 := hget i hi
   rw [List.getElem?_eq_getElem (by omega)] at h1
   obtain ⟨cs', h2, h3⟩ := Option.bind_eq_some_iff.1 h1
   obtain ⟨y, k1, k2, k3⟩ := h enc w base spare held cs' _ h3
   exact ⟨y, cs', _, List.getElem?_eq_getElem (by omega), h2, k1, k2, k3⟩
  obtain ⟨ys, hyl, hy⟩ := list_of len key
  refine ⟨ys, ⟨some a, cap, by rw [hyl], by omega, ?_⟩, ⟨?_, by omega⟩, ?_⟩
  ·refine ⟨rfl, by omega, fun _ => ⟨a, rfl, fun j p hj => ?_⟩⟩
   obtain ⟨cs', x', _, h2, h3, _⟩ := hy j p hj
   obtain ⟨_, h5, h6⟩ := World.cells?_some h2
   refine ⟨cs', h5, h3, fun i u hi => ?_⟩
   have hlt : i < d.sz := by
    have := (List.getElem?_eq_some_iff.1 hi).1
    omega
   rw [← add_add, h6 i hlt, hi]
  ·intro y hm
   obtain ⟨i, hi⟩ := List.getElem?_of_mem hm
   obtain ⟨_, _, _, _, _, h4, _⟩ := hy i y hi
   exact h4
  ·have := bulk_sum wt ys (elems.map (·.1)) (by simp [hyl, hel]) (fun i y dd hi hd => by
    obtain ⟨cs', x', h1, _, _, _, h5⟩ := hy i y hi
    rw [List.getElem?_map, h1] at hd
    obtain rfl : x'.1 = dd := by simpa using hd
    exact h5)
   simp only [Rows.uptoBulk]
   omega
theorem rdf_one {α : Type} {d : Kd α} {ok : α → Prop} {wt : α → Nat} {f : Field} {o : Nat} (ho : f.offset = o) (hc : P.cellsOf f.type = d.sz) (h : Rd P d f.type ok wt n) : RdF P d [f] o ok wt n := by
 intro H enc w base spare held cs xs hl hx
 match xs, hl with
 | [x], _ =>
  have h0 := hx 0 f rfl
  rw [ho, hc] at h0
  obtain ⟨y, h1, h2, h3⟩ := h enc w base spare held _ _ h0
  exact ⟨y, h1, h2, by simpa [Rows.uptoBulkAll] using h3⟩
theorem rdf_cons {α β : Type} {d : Kd α} {d2 : Kd β} {ok : α → Prop} {wt : α → Nat} {ok2 : β → Prop} {wt2 : β → Nat} {f : Field} {fs : List Field} {o : Nat} (ho : f.offset = o) (hc : P.cellsOf f.type = d.sz) (h : Rd P d f.type ok wt n) (h2 : RdF P d2 fs (o + d.sz) ok2 wt2 n) :
  RdF P (Kd.pair d d2) (f :: fs) o (fun y => ok y.1 ∧ ok2 y.2) (fun y => wt y.1 + wt2 y.2) n := by
 intro H enc w base spare held cs xs hl hx
 match xs, hl with
 | x :: xs, hl =>
  have h0 := hx 0 f rfl
  rw [ho, hc] at h0
  obtain ⟨y, k1, k2, k3⟩ := h enc w base spare held _ _ h0
  obtain ⟨z, j1, j2, j3⟩ := h2 enc w base spare held cs xs (by simpa using hl) fun i g hg => by
   have := hx (i + 1) g (by simpa using hg)
   simpa using this
  refine ⟨(y, z), ⟨_, _, ?_, k1, j1⟩, ⟨k2, j2⟩, ?_⟩
  ·show (cs.drop o).take (d.sz + d2.sz) = _
   rw [List.take_add, List.drop_drop]
  ·simp only [List.map_cons, Rows.uptoBulkAll]
   omega
theorem rd_struct {α : Type} {d : Kd α} {ok : α → Prop} {wt : α → Nat} {fs : Array Field} (ht : P.underlying t = some (.struct fs)) (hc : P.cellsOf t = d.sz) (h : RdF P d fs.toList 0 ok wt n) : Rd P d t ok (fun y => wt y + 1) (n + 1) := by
 intro H enc w base spare held cs x hx
 obtain ⟨xs, m, hm, rfl, hl, hxl, hf⟩ := DataW.trod_struct ht hx
 obtain rfl : n = m := by omega
 obtain ⟨y, h1, h2, h3⟩ := h enc w base spare held cs xs (by simpa using hxl) fun i f hi => hf i f (by simpa using hi)
 refine ⟨y, ?_, h2, by simp only [Rows.uptoBulk]; omega⟩
 rw [List.drop_zero, List.take_of_length_le (by omega)] at h1
 exact h1
end
end Go.Proofs.YtnjmilelifmfpaaGreatDoor.HRead

namespace Go.Proofs.YtnjmilelifmfpaaGreatDoor.Pure
open Go Go.RowKit Go.Lib Go.Proofs.YtnjmilelifmfpaaGreatDoorW.PrintWords Go.Proofs.YtnjmilelifmfpaaGreatDoorW.PrintLast Go.Proofs.YtnjmilelifmfpaaGreatDoorW.PrintMore
set_option linter.unusedVariables false
namespace RdW
variable {P : Program} {t e : TypeId} {n : Nat}
def Rd {α : Type} (P : Program) (d : Kd α) (t : TypeId) (ok ft : α → Prop) (n : Nat) : Prop :=
 ∀ {H : Type} (enc : TypeId × Value → H) (w : World) (base : Nat) (spare : Nat → Bool) (held : Bool) (cs : List Value) (x : DataW H × List MemPlace),
  DataW.trod enc P w base spare held n t cs = some x → ∃ y, d.K w y cs ∧ ok y ∧ ((∀ m ∈ x.1.weights P t, m ≤ reachBytes) → ft y)
def RdF {α : Type} (P : Program) (d : Kd α) (fs : List Field) (o : Nat) (ok ft : α → Prop) (n : Nat) : Prop :=
 ∀ {H : Type} (enc : TypeId × Value → H) (w : World) (base : Nat) (spare : Nat → Bool) (held : Bool) (cs : List Value) (xs : List (DataW H × List MemPlace)), xs.length = fs.length →
  (∀ (i : Nat) (f : Field), fs[i]? = some f → DataW.trod enc P w base spare held n f.type ((cs.drop f.offset).take (P.cellsOf f.type)) = xs[i]?) →
  ∃ y, d.K w y ((cs.drop o).take d.sz) ∧ ok y ∧ ((∀ m ∈ DataW.weightsEach P (fs.map (·.type)) (xs.map (·.1)), m ≤ reachBytes) → ft y)
theorem all_mem {H : Type} {ds : List (DataW H)} {d : DataW H} (hd : d ∈ ds) {m : Nat} (hm : m ∈ d.weights P e) : m ∈ DataW.weightsAll P e ds := by
 induction ds with
 | nil => simp at hd
 | cons x ds ih =>
  rw [DataW.weightsAll, List.mem_append]
  rcases List.mem_cons.1 hd with rfl | hd
  ·exact .inl hm
  ·exact .inr (ih hd)
theorem rd_zero {α : Type} {d : Kd α} {ok ft : α → Prop} : Rd P d t ok ft 0 := fun enc w base spare held cs x h => by simp [DataW.trod] at h
theorem rd_int {k : IntKind} (ht : P.underlying t = some (.int k)) : Rd P (Kd.int k) t (fun m => (Lit.int k m).wf = true) (fun _ => True) n := by
 intro H enc w base spare held cs x h
 obtain ⟨m, rfl, rfl, hw⟩ := DataW.trod_int ht h
 exact ⟨m, rfl, hw, fun _ => trivial⟩
theorem rd_string (ht : P.underlying t = some .string) : Rd P Kd.string t (fun _ => True) (fun s => s.size ≤ reachBytes) n := by
 intro H enc w base spare held cs x h
 obtain ⟨s, rfl, rfl, hs⟩ := DataW.trod_string ht h
 refine ⟨s, rfl, trivial, fun hm => ?_⟩
 have := hm _ (by simp only [DataW.weights]; exact List.mem_singleton_self _)
 simpa using this
theorem rd_slice {α : Type} {d : Kd α} {ok ft : α → Prop} (ht : P.underlying t = some (.slice e)) (hc : P.cellsOf e = d.sz) (h : Rd P d e ok ft n) :
  Rd P (Kd.slice e d) t (fun ys => (∀ y ∈ ys, ok y) ∧ ys.length ≤ 9223372036854775807) (fun ys => (∀ y ∈ ys, ft y) ∧ ys.length * P.bytesOf e ≤ reachBytes) (n + 1) := by
 intro H enc w base spare held cs x hx
 rcases DataW.trod_slice ht hx with ⟨rfl, rfl⟩ | ⟨a, len, cap, elems, rest, m, hm, rfl, rfl, hb, hl, hmax, hel, hget, _, _⟩
 ·exact ⟨[], ⟨none, 0, rfl, Nat.le_refl _, rfl, by simp, fun h0 => absurd h0 (by simp)⟩, ⟨by simp, by simp⟩, fun _ => ⟨by simp, by simp⟩⟩
 ·obtain rfl : n = m := by omega
  rw [hc] at hget
  have hmax' : cap ≤ 9223372036854775807 := hmax
  have key : ∀ i, i < len → ∃ y, ∃ cs' x', elems[i]? = some x' ∧ w.cells? base (a.add (i * d.sz)) d.sz = some cs' ∧ d.K w y cs' ∧ ok y ∧ ((∀ m ∈ x'.1.weights P e, m ≤ reachBytes) → ft y) := by
   intro i hi
   have h1 := hget i hi
   rw [List.getElem?_eq_getElem (by omega)] at h1
   obtain ⟨cs', h2, h3⟩ := Option.bind_eq_some_iff.1 h1
   obtain ⟨y, k1, k2, k3⟩ := h enc w base spare held cs' _ h3
   exact ⟨y, cs', _, List.getElem?_eq_getElem (by omega), h2, k1, k2, k3⟩
  obtain ⟨ys, hyl, hy⟩ := HRead.list_of len key
  refine ⟨ys, ⟨some a, cap, by rw [hyl], by omega, ?_⟩, ⟨?_, by omega⟩, fun hw => ⟨?_, ?_⟩⟩
  ·refine ⟨rfl, by omega, fun _ => ⟨a, rfl, fun j p hj => ?_⟩⟩
   obtain ⟨cs', x', _, h2, h3, _⟩ := hy j p hj
   obtain ⟨_, h5, h6⟩ := World.cells?_some h2
   refine ⟨cs', h5, h3, fun i u hi => ?_⟩
   have hlt : i < d.sz := by
    have := (List.getElem?_eq_some_iff.1 hi).1
    omega
   rw [← add_add, h6 i hlt, hi]
  ·intro y hm
   obtain ⟨i, hi⟩ := List.getElem?_of_mem hm
   obtain ⟨_, _, _, _, _, h4, _⟩ := hy i y hi
   exact h4
  ·intro y hm
   obtain ⟨i, hi⟩ := List.getElem?_of_mem hm
   obtain ⟨_, x', h1, _, _, _, h5⟩ := hy i y hi
   refine h5 fun m hm' => hw m ?_
   simp only [DataW.weights, ht]
   exact List.mem_cons_of_mem _ (List.mem_append_left _ (all_mem (List.mem_map.2 ⟨x', List.mem_of_getElem? h1, rfl⟩) hm'))
  ·have := hw _ (by simp only [DataW.weights, ht]; exact List.mem_cons_self ..)
   simp only [List.length_map] at this
   rw [hyl, ← hel]
   exact Nat.le_trans (Nat.mul_le_mul_right _ (Nat.le_add_right _ _)) this
theorem rdf_one {α : Type} {d : Kd α} {ok ft : α → Prop} {f : Field} {o : Nat} (ho : f.offset = o) (hc : P.cellsOf f.type = d.sz) (h : Rd P d f.type ok ft n) : RdF P d [f] o ok ft n := by
 intro H enc w base spare held cs xs hl hx
 match xs, hl with
 | [x], _ =>
  have h0 := hx 0 f rfl
  rw [ho, hc] at h0
  obtain ⟨y, h1, h2, h3⟩ := h enc w base spare held _ _ h0
  exact ⟨y, h1, h2, fun hw => h3 fun m hm => hw m (by simp only [List.map_cons, List.map_nil, DataW.weightsEach, List.append_nil]; exact hm)⟩
theorem rdf_cons {α β : Type} {d : Kd α} {d2 : Kd β} {ok ft : α → Prop} {ok2 ft2 : β → Prop} {f : Field} {fs : List Field} {o : Nat} (ho : f.offset = o) (hc : P.cellsOf f.type = d.sz) (h : Rd P d f.type ok ft n) (h2 : RdF P d2 fs (o + d.sz) ok2 ft2 n) :
  RdF P (Kd.pair d d2) (f :: fs) o (fun y => ok y.1 ∧ ok2 y.2) (fun y => ft y.1 ∧ ft2 y.2) n := by
 intro H enc w base spare held cs xs hl hx
 match xs, hl with
 | x :: xs, hl =>
  have h0 := hx 0 f rfl
  rw [ho, hc] at h0
  obtain ⟨y, k1, k2, k3⟩ := h enc w base spare held _ _ h0
  obtain ⟨z, j1, j2, j3⟩ := h2 enc w base spare held cs xs (by simpa using hl) fun i g hg => by
   have := hx (i + 1) g (by simpa using hg)
   simpa using this
  refine ⟨(y, z), ⟨_, _, ?_, k1, j1⟩, ⟨k2, j2⟩, fun hw => ⟨k3 fun m hm => hw m ?_, j3 fun m hm => hw m ?_⟩⟩
  ·show (cs.drop o).take (d.sz + d2.sz) = _
   rw [List.take_add, List.drop_drop]
  ·simp only [List.map_cons, DataW.weightsEach]; exact List.mem_append_left _ hm
  ·simp only [List.map_cons, DataW.weightsEach]; exact List.mem_append_right _ hm
theorem rd_struct {α : Type} {d : Kd α} {ok ft : α → Prop} {fs : Array Field} (ht : P.underlying t = some (.struct fs)) (hc : P.cellsOf t = d.sz) (h : RdF P d fs.toList 0 ok ft n) : Rd P d t ok ft (n + 1) := by
 intro H enc w base spare held cs x hx
 obtain ⟨xs, m, hm, rfl, hl, hxl, hf⟩ := DataW.trod_struct ht hx
 obtain rfl : n = m := by omega
 obtain ⟨y, h1, h2, h3⟩ := h enc w base spare held cs xs (by simpa using hxl) fun i f hi => hf i f (by simpa using hi)
 refine ⟨y, ?_, h2, fun hw => h3 fun m hm => hw m ?_⟩
 ·rw [List.drop_zero, List.take_of_length_le (by omega)] at h1
  exact h1
 ·simp only [DataW.weights, ht]; exact hm
end RdW
end Go.Proofs.YtnjmilelifmfpaaGreatDoor.Pure

namespace Go.Proofs.YtnjmilelifmfpaaGreatDoor.Pure
open Go Go.RowKit Go.Proofs.YtnjmilelifmfpaaGreatDoor.Q Go.Proofs.YtnjmilelifmfpaaGreatDoorW.PrintWords Go.Proofs.YtnjmilelifmfpaaGreatDoorW.PrintLast Go.Proofs.YtnjmilelifmfpaaGreatDoorW.PrintMore
open RdW HCore Go.WideShapes
namespace CoreRdW
mutual
def Fit : T → Prop
 | ⟨_, _, s, l⟩ => s.size ≤ reachBytes ∧ l.length ≤ reachBytes ∧ Fits l
def Fits : List T → Prop
 | [] => True
 | x :: r => Fit x ∧ Fits r
end
theorem fits_of : ∀ l : List T, (∀ y ∈ l, Fit y) → Fits l
 | [], _ => trivial
 | x :: r, h => ⟨h x (List.mem_cons_self ..), fits_of r fun y hy => h y (List.mem_cons_of_mem _ hy)⟩
theorem oks_of : ∀ l : List T, (∀ y ∈ l, Ok y) → Oks l
 | [], _ => trivial
 | x :: r, h => ⟨h x (List.mem_cons_self ..), oks_of r fun y hy => h y (List.mem_cons_of_mem _ hy)⟩
theorem rdTerm : ∀ n, (∀ m, m ≤ n → Rd Tryz.prog k24 24 Ok Fit m)
 | 0 => fun m hm => by
  obtain rfl : m = 0 := by omega
  exact rd_zero
 | n + 1 => fun m hm => by
  have ih := rdTerm n
  rcases Nat.lt_or_ge m (n + 1) with hlt | hge
  ·intro H enc w base spare held cs x hx
   exact ih m (by omega) enc w base spare held cs x hx
  ·obtain rfl : m = n + 1 := by omega
   have hs : Rd Tryz.prog (Kd.slice 24 k24) 22 (fun ys => (∀ y ∈ ys, Ok y) ∧ ys.length ≤ 9223372036854775807) (fun ys => (∀ y ∈ ys, Fit y) ∧ ys.length * Tryz.prog.bytesOf 24 ≤ reachBytes) n := by
    cases n with
    | zero => exact rd_zero
    | succ n => exact rd_slice Tryz.underlying22 (by kernel_rfl) (ih n (by omega))
   intro H enc w base spare held cs x hx
   obtain ⟨y, hK, ⟨o1, o2, _, o3, _⟩, hw⟩ := rd_struct (d := Kd.pair (Kd.int .i64) (Kd.pair (Kd.int .i64) (Kd.pair Kd.string (Kd.slice 24 k24)))) Tryz.underlying24 (by kernel_rfl) (rdf_cons rfl (by kernel_rfl) (rd_int Tryz.underlying3) (rdf_cons rfl (by kernel_rfl) (rd_int Tryz.underlying3) (rdf_cons rfl (by kernel_rfl) (rd_string Tryz.underlying9) (rdf_one rfl (by kernel_rfl) hs)))) enc w base spare held cs x hx
   obtain ⟨a, b, s, l⟩ := y
   refine ⟨⟨a, b, s, l⟩, ?_, ⟨o1, o2, oks_of l o3⟩, fun hm => ?_⟩
   ·obtain ⟨_, _, rfl, rfl, ⟨_, _, rfl, rfl, ⟨_, _, rfl, rfl, ⟨A, c, rfl, hl, g⟩⟩⟩⟩ := hK
    exact k24_mk w ⟨a, b, s, l⟩ hl g
   ·obtain ⟨_, _, f3, f4, f5⟩ := hw hm
    dsimp only at f3 f4 f5
    have hb : 1 ≤ Tryz.prog.bytesOf 24 := of_decide_eq_true (by kernel_rfl)
    exact ⟨f3, Nat.le_trans (Nat.le_mul_of_pos_right _ hb) f5, fits_of l f4⟩
set_option maxRecDepth 100000 in
theorem readTerm {H : Type} {enc : TypeId × Value → H} {W : World} {base0 base : Nat} {spare : Nat → Bool} {held : Bool} {r : Reach} {v : Value} {D : DataW H} {ps : List MemPlace} (hval : Value.okWide Tryz.prog W r base0 24 v)
  (hd : DataW.Trod enc Tryz.prog W base spare held 24 v D ps) (hsz : ∀ m ∈ D.weights Tryz.prog 24, m ≤ reachBytes) :
  ∃ (x : T) (A : Option Addr) (c : Nat), v = .agg #[.int .i64 x.f0, .int .i64 x.f1, .string x.f2, .slice A x.f3.length c] ∧ Kd.C k24 W A x.f3.length x.f3 ∧ x.f3.length ≤ c ∧ Ok x ∧ Fit x := by
 obtain ⟨cs, rfl, hsz'⟩ := okWide_struct Tryz.underlying24 hval
 obtain ⟨fuel, hf⟩ := hd
 obtain ⟨x, hK, hok, hw⟩ := rdTerm fuel fuel (Nat.le_refl _) enc W base spare held _ _ hf
 obtain ⟨A, c, hcs, hl, hC⟩ := k24_open hK
 refine ⟨x, A, c, ?_, hC, hl, hok, hw hsz⟩
 have : cs.toList = [.int .i64 x.f0, .int .i64 x.f1, .string x.f2, .slice A x.f3.length c] := by simpa [Value.cells] using hcs
 rw [← this]
end CoreRdW
end Go.Proofs.YtnjmilelifmfpaaGreatDoor.Pure

namespace Go.Proofs.YtnjmilelifmfpaaGreatDoor.Pure
open Go Go.RowKit Go.Proofs.YtnjmilelifmfpaaGreatDoor.Q Go.Proofs.YtnjmilelifmfpaaGreatDoorW.PrintWords Go.Proofs.YtnjmilelifmfpaaGreatDoorW.PrintLast Go.Proofs.YtnjmilelifmfpaaGreatDoorW.PrintMore
mutual
theorem fit_mx : ∀ x : HCore.T, CoreRdW.Fit x → Ev.mx x ≤ 140737488355328 ∧ Ev.wd x ≤ 140737488355328
 | ⟨_, _, s, l⟩, h => by
  obtain ⟨h1, h2, h3⟩ := h
  have := fits_mx l h3
  have e : reachBytes = 140737488351232 := rfl
  simp only [Ev.mx, Ev.wd]; omega
theorem fits_mx : ∀ l : List HCore.T, CoreRdW.Fits l → Ev.mxs l ≤ 140737488355328 ∧ Ev.wds l ≤ 140737488355328
 | [], _ => ⟨Nat.zero_le _, Nat.zero_le _⟩
 | x :: l, h => by
  have h1 := fit_mx x h.1
  have h2 := fits_mx l h.2
  simp only [Ev.mxs, Ev.wds]; omega
end
end Go.Proofs.YtnjmilelifmfpaaGreatDoor.Pure

namespace Go.Proofs.YtnjmilelifmfpaaGreatDoor.Pure
open Go Go.RowKit Go.Proofs.YtnjmilelifmfpaaGreatDoor.Q Go.Proofs.YtnjmilelifmfpaaGreatDoorW.PrintWords Go.Proofs.YtnjmilelifmfpaaGreatDoorW.PrintLast Go.Proofs.YtnjmilelifmfpaaGreatDoorW.PrintMore
theorem HeadFuel_walk {w : World} (t : HCore.T) (A : Option Addr) (c : Nat) (a : Int) (hC : Kd.C k24 w A t.f3.length t.f3) (hl : t.f3.length ≤ c) (hf : CoreRdW.Fit t) {P : Prop} (_ : P) :
  Calls Tryz.prog 5 #[.agg #[.int .i64 t.f0, .int .i64 t.f1, .string t.f2, .slice A t.f3.length c], .int .i64 a] w fun e w' => e = .returned (.bool true) ∧ Below w.heap.size w w' :=
 (Ev.c_lfuel (Ev.Jof.ok w) (Ev.c_fixed (Ev.Jof.ok w)) _ _ ⟨t, a, rfl, fit_mx t hf, rfl⟩ (Ev.SW w) w [.agg #[.int .i64 t.f0, .int .i64 t.f1, .string t.f2, .slice A t.f3.length c], .int .i64 a] (Below.refl _ _) (Ev.SW_agr w) (.cons (.com (Ev.repT hl hC)) (.cons (.com (.cel (.pur (.s rfl)))) .nil))).mono fun e w' h => Ev.post_ret h
end Go.Proofs.YtnjmilelifmfpaaGreatDoor.Pure

namespace Go.Proofs.YtnjmilelifmfpaaGreatDoor.Ev
open Go Go.RowKit
open HCore (wt wts may same height heights size sizes each bare oper)
open Go.Proofs.YtnjmilelifmfpaaGreatDoor.HSub (hstep nothing still)
open Pure.CoreRun (run_is size_step steps run_tells run_ends steps_may steps_add steps_one)
open Go.Proofs.YtnjmilelifmfpaaGreatDoor.Pure.CoreStep
set_option linter.unusedSimpArgs false
set_option linter.unusedVariables false
theorem may_up9 {x : Tm} (h : may x 0 = true) {q : Int} (hq : 0 ≤ q) : may x q = true := Pure.CoreMono.may_mono x 0 q hq h
theorem run_ways (x : Tm) : ∃ (m : Nat) (y : Tm) (e : Int), HSub.run 61 x 0 60 = (y, (m : Int), e) ∧ m ≤ 60 ∧ (∀ i, i < m → (hstep (steps i x)).2 ≠ 0 ∧ size (steps i x) ≤ 5000) ∧ (e = 0 ∧ y = steps m x ∧ (hstep y).2 = 0 ∧ size y ≤ 5000 ∨ e = 90 ∨ e = 91) := by
 obtain ⟨m1, a1, a2, a3, a4⟩ := run_tells 61 x 0 60 (by omega)
 simp only [Int.zero_add] at a2 a4
 rcases a4 with ⟨r1, z1, s1⟩ | ⟨r1, e1, z1, s1⟩ | ⟨r1, s1⟩
 ·exact ⟨m1, _, _, r1, a1, a3, .inl ⟨rfl, rfl, z1, s1⟩⟩
 ·exact ⟨m1, _, _, r1, a1, a3, .inr (.inl rfl)⟩
 ·exact ⟨m1, _, _, r1, a1, a3, .inr (.inr rfl)⟩
def runsS (x y : Tm) (ct : Int) (m : Nat) (e : Int) (i : Nat) : AS := ⟨tm [(9, .s (.int .i64 (i : Int))), (1, .s (.int .i64 ct)), (2, .ptr 0 0), (5, .ptr 1 0), (6, .s (.int .i64 (m : Int))), (7, .s (.int .i64 e)), (8, .ptr 2 0)], bm [(0, some (cX x)), (1, some (cX y)), (2, some (cX (steps i x)))], bm [], 3⟩
abbrev TLRuns : Spec := fun args out => ∃ (x : Tm) (ct : Int), args = [.agg (encT x), .s (.int .i64 ct)] ∧ Fits9 x ∧ out = .ret (.s (.bool true))
set_option maxHeartbeats 4000000 in
set_option maxRecDepth 100000 in
theorem c_lruns {J : JW} (hJ : JOk J) (hf : Con Tryz.prog J 11 TFixed) : Con Tryz.prog J 4 TLRuns := by
 obtain ⟨code, h1, h2, h3, h4⟩ := k4
 refine conF (ins 5 c4) (ok9 hJ hf) hJ h1 h2 h3 h4 (by kernel_rfl) fun args out h => ?_
 obtain ⟨x, ct, rfl, ⟨hxm, hxd⟩, rfl⟩ := h
 have s2 := height_le_size x
 refine ⟨rfl, by rw [Tryz.ntmps4]; simp, ?_⟩
 rw [encT_is x]
 unfold c4
 simp only [ins]
 refine hide2 fun M hM => ?_
 refine go ?_
 subst hM
 refine hide2 fun M hM => ?_
 refine go ?_
 refine call (T := TFixed) ⟨rfl, rfl⟩ ?_
 refine go ?_
 refine call (T := TSmall) ⟨x, 200, by rw [encT_is], by omega, by omega, by omega, rfl⟩ ?_
 by_cases q1 : 0 ≤ few x 200 600
 rotate_left
 ·simp only [decide_eq_false q1]
  refine go ?_
  refine call (T := TFixed) ⟨rfl, rfl⟩ ?_
  refine go ?_
  trivial
 obtain ⟨g1, g2⟩ := small_ge q1
 simp only [decide_eq_true q1]
 refine go ?_
 refine call (T := TDepth _) ⟨x, by rw [encT_is], by omega, by omega, rfl⟩ ?_
 refine go ?_
 by_cases q2 : (height x : Int) > 300
 ·simp only [q2, decide_true]
  refine go ?_
  refine call (T := TFixed) ⟨rfl, rfl⟩ ?_
  refine go ?_
  trivial
 simp only [q2, decide_false]
 refine go ?_
 refine call (T := TRMay) ⟨x, 0, by rw [encT_is], by omega, by omega, by omega, by omega, rfl⟩ ?_
 cases mx0 : may x 0 with
 | false =>
  refine go ?_
  refine call (T := TFixed) ⟨rfl, rfl⟩ ?_
  refine go ?_
  trivial
 | true =>
 have hwx := wt_small (x := x) (by omega) (mx_may _ x 0 (Nat.le_refl _) mx0)
 refine go ?_
 by_cases q3 : ct < 0
 ·simp only [q3, decide_true]
  refine go ?_
  refine call (T := TFixed) ⟨rfl, rfl⟩ ?_
  refine go ?_
  trivial
 simp only [q3, decide_false]
 refine go ?_
 by_cases q4 : ct > 60
 ·simp only [q4, decide_true]
  refine go ?_
  refine call (T := TFixed) ⟨rfl, rfl⟩ ?_
  refine go ?_
  trivial
 simp only [q4, decide_false]
 refine go ?_
 obtain ⟨m, y, e, hr, hm, hst, hways⟩ := run_ways x
 have e1 : runF x 60 = (y, (m : Int), e) := by rw [← hr]; exact if_pos ⟨mx0, by decide, by decide⟩
 have hmay : ∀ i, may (steps i x) 0 = true := fun i => steps_may i x 0 (Int.le_refl 0) mx0
 have hmx : ∀ i, mx (steps i x) ≤ 16 := fun i => mx_may _ _ 0 (Nat.le_refl _) (hmay i)
 have hwt : ∀ i, size (steps i x) ≤ 5000 → wt (steps i x) ≤ 100000 := fun i h => by
  have h1 := wt_le_mx (steps i x)
  have h2 := hmx i
  have h3 : size (steps i x) * (mx (steps i x) + 1) ≤ 5000 * 17 := Nat.mul_le_mul h (by omega)
  omega
 subst hM
 refine hide2 fun M hM => ?_
 refine go ?_
 refine call (T := TRun) ⟨x, 60, by rw [encT_is], by omega, by omega, rfl⟩ ?_
 rw [e1]
 dsimp only
 rw [encT_is y]
 refine go ?_
 subst hM
 refine hide2 fun M hM => ?_
 refine go ?_
 subst hM
 refine hide2 fun M hM => ?_
 refine go ?_
 refine countI (min ct.toNat m) (fun _ (_ : Unit) => True) (fun i _ => runsS x y ct m e i) () trivial (lm [(0, 0), (1, 33), (2, 38)] (hB := by simp [bsub, onto, bm, subs, subC, steps])) fun i _ hi _ => ?_
 unfold runsS
 refine hide2 fun N hN => ?_
 refine go ?_
 have after : ¬ ((i : Int) < ct ∧ (i : Int) < (m : Int)) → i = min ct.toNat m := fun h => by omega
 have him : i ≤ m := by omega
 have hM' : M = .seq .fgt (sndS M) := by rw [hM]; rfl
 suffices FIN : i = min ct.toNat m → awp Tryz.prog (env E9) (sndS M) (fin Tryz.prog [RV.t 4] fun x => x = AOut.ret (AV.s (Value.bool true))) (runsS x y ct m e i) by
  by_cases p1 : (i : Int) < ct
  ·simp only [p1, decide_true]
   refine go ?_
   by_cases p2 : (i : Int) < (m : Int)
   ·simp only [p2, decide_true]
    obtain ⟨t1, t2⟩ := hst i (by omega)
    refine go ?_
    subst hN
    refine hideB fun N hN => ?_
    refine go ?_
    have hwi := hwt i t2
    have hnx : (hstep (steps i x)).1 = steps (i + 1) x := (steps_one i x).symm
    refine call (T := THStep) ⟨steps i x, by rw [encT_is], by omega, by omega, rfl⟩ ?_
    rw [show stepF (steps i x) = hstep (steps i x) from if_pos (may_up9 (hmay i) (by decide)), hnx, encT_is (steps (i + 1) x)]
    refine go ?_
    subst hN
    refine go ?_
    simp only [show ((hstep (steps i x)).2 == 0) = false by simpa using t1]
    refine go ?_
    have hq := size_step _ (steps i x) (Nat.le_refl _)
    have hsq : size (steps i x) * size (steps i x) ≤ 5000 * 5000 := Nat.mul_le_mul t2 t2
    rw [hnx] at hq
    have hh := height_le_size (steps (i + 1) x)
    have hx := hmx (i + 1)
    refine call (T := TRMay) ⟨steps (i + 1) x, 0, by rw [encT_is], by omega, by omega, by omega, by omega, rfl⟩ ?_
    rw [hmay]
    refine go ?_
    rw [nxt (by omega)]
    exact ⟨by omega, (), lm [(0, 0), (1, 1), (2, 2)] (hB := by simp [bsub, onto, bm, subs, subC])⟩
   ·simp only [p2, decide_false]
    refine go ?_
    rw [hM']
    refine go ?_
    exact ⟨runsS x y ct m e i, lm [(0, 0), (1, 1), (2, 2)] (hB := by simp [bsub, onto, bm, subs, subC]), FIN (after fun h => p2 h.2)⟩
  ·simp only [p1, decide_false]
   refine go ?_
   rw [hM']
   refine go ?_
   exact ⟨runsS x y ct m e i, lm [(0, 0), (1, 1), (2, 2)] (hB := by simp [bsub, onto, bm, subs, subC]), FIN (after fun h => p1 h.1)⟩
 intro hi'
 rw [hM]
 simp only [sndS]
 unfold runsS
 refine hide2 fun N hN => ?_
 refine go ?_
 rcases hways with ⟨rfl, rfl, hy, hys⟩|rfl|rfl
 rotate_left
 ·refine go ?_
  simp only [show (m : Int) ≤ 60 by omega, decide_true]
 ·refine go ?_
  simp only [show (m : Int) ≤ 60 by omega, decide_true]
 refine go ?_
 have sti : size (steps i x) ≤ 5000 := by
  by_cases h : i < m
  ·exact (hst i h).2
  ·have : i = m := by omega
   rw [this]; exact hys
 have hadd : steps (m - i) (steps i x) = steps m x := by rw [← steps_add, show i + (m - i) = m by omega]
 have hri := run_ends (m - i) 61 (steps i x) 0 60 (by omega) (by omega) (fun j hj => by rw [← steps_add]; exact hst (i + j) (by omega)) (by rw [hadd]; exact hy) (by rw [hadd]; exact hys)
 rw [hadd, Int.zero_add] at hri
 have er : runF (steps i x) 60 = (steps m x, ((m - i : Nat) : Int), 0) := by rw [← hri]; exact if_pos ⟨hmay i, by decide, by decide⟩
 have hwi := hwt i sti
 have hwm := hwt m hys
 have hhm := height_le_size (steps m x)
 subst hN
 refine hide2 fun N hN => ?_
 refine go ?_
 refine call (T := TRun) ⟨steps i x, 60, by rw [encT_is], by omega, by omega, rfl⟩ ?_
 rw [er]
 dsimp only
 rw [encT_is (steps m x)]
 refine go ?_
 subst hN
 refine hide2 fun N hN => ?_
 refine go ?_
 refine call (T := THStep) ⟨steps m x, by rw [encT_is], by omega, by omega, rfl⟩ ?_
 have es : stepF (steps m x) = (steps m x, 0) := by
  rw [show stepF (steps m x) = hstep (steps m x) from if_pos (may_up9 (hmay m) (by decide))]
  exact Prod.ext (step_none _ hy) hy
 rw [es]
 dsimp only
 rw [encT_is (steps m x)]
 refine go ?_
 subst hN
 refine hide2 fun N hN => ?_
 refine go ?_
 have hstill := closed_still _ (steps m x) (Nat.le_refl _) (hmay m) hy
 have hmm := hmay m
 have hmxm := hmx m
 have hmin : (m : Int) - (if (m : Int) < ct then (m : Int) else ct) = ((m - i : Nat) : Int) := by
  split <;> omega
 generalize steps m x = z at *
 rcases hstill with h | h | h | h
 ·simp only [show (z.f0 == 2) = true by simp [h]]
  refine go ?_
  subst hN
  refine go ?_
  refine call (T := TSame _) ⟨z, z, by rw [encT_is], by omega, by omega, rfl⟩ ?_
  rw [Pure.R6P.same_refl]
  refine go ?_
  rw [hmin, wr (by omega) (by omega)]
  simp only [beq_self_eq_true]
  refine go ?_
  refine call (T := TRMay) ⟨z, 0, by rw [encT_is], by omega, by omega, by omega, by omega, rfl⟩ ?_
  rw [hmm]
  refine go ?_
  trivial
 ·simp only [show (z.f0 == 2) = false by simp [h]]
  refine go ?_
  simp only [show (z.f0 == 4) = true by simp [h]]
  refine go ?_
  subst hN
  refine go ?_
  refine call (T := TSame _) ⟨z, z, by rw [encT_is], by omega, by omega, rfl⟩ ?_
  rw [Pure.R6P.same_refl]
  refine go ?_
  rw [hmin, wr (by omega) (by omega)]
  simp only [beq_self_eq_true]
  refine go ?_
  refine call (T := TRMay) ⟨z, 0, by rw [encT_is], by omega, by omega, by omega, by omega, rfl⟩ ?_
  rw [hmm]
  refine go ?_
  trivial
 ·simp only [show (z.f0 == 2) = false by simp [h]]
  refine go ?_
  simp only [show (z.f0 == 4) = false by simp [h]]
  refine go ?_
  simp only [show (z.f0 == 7) = true by simp [h]]
  refine go ?_
  subst hN
  refine go ?_
  refine call (T := TSame _) ⟨z, z, by rw [encT_is], by omega, by omega, rfl⟩ ?_
  rw [Pure.R6P.same_refl]
  refine go ?_
  rw [hmin, wr (by omega) (by omega)]
  simp only [beq_self_eq_true]
  refine go ?_
  refine call (T := TRMay) ⟨z, 0, by rw [encT_is], by omega, by omega, by omega, by omega, rfl⟩ ?_
  rw [hmm]
  refine go ?_
  trivial
 ·simp only [show (z.f0 == 2) = false by simp [h]]
  refine go ?_
  simp only [show (z.f0 == 4) = false by simp [h]]
  refine go ?_
  simp only [show (z.f0 == 7) = false by simp [h]]
  refine go ?_
  simp only [show (z.f0 == 9) = true by simp [h]]
  subst hN
  refine go ?_
  refine call (T := TSame _) ⟨z, z, by rw [encT_is], by omega, by omega, rfl⟩ ?_
  rw [Pure.R6P.same_refl]
  refine go ?_
  rw [hmin, wr (by omega) (by omega)]
  simp only [beq_self_eq_true]
  refine go ?_
  refine call (T := TRMay) ⟨z, 0, by rw [encT_is], by omega, by omega, by omega, by omega, rfl⟩ ?_
  rw [hmm]
  refine go ?_
  trivial
end Go.Proofs.YtnjmilelifmfpaaGreatDoor.Ev

namespace Go.Proofs.YtnjmilelifmfpaaGreatDoor.Pure
open Go Go.RowKit Go.Proofs.YtnjmilelifmfpaaGreatDoor.Q Go.Proofs.YtnjmilelifmfpaaGreatDoorW.PrintWords Go.Proofs.YtnjmilelifmfpaaGreatDoorW.PrintLast Go.Proofs.YtnjmilelifmfpaaGreatDoorW.PrintMore
theorem HeadRuns_walk {w : World} (t : HCore.T) (A : Option Addr) (c : Nat) (a : Int) (hC : Kd.C k24 w A t.f3.length t.f3) (hl : t.f3.length ≤ c) (hf : CoreRdW.Fit t) {P : Prop} (_ : P) :
  Calls Tryz.prog 4 #[.agg #[.int .i64 t.f0, .int .i64 t.f1, .string t.f2, .slice A t.f3.length c], .int .i64 a] w fun e w' => e = .returned (.bool true) ∧ Below w.heap.size w w' :=
 (Ev.c_lruns (Ev.Jof.ok w) (Ev.c_fixed (Ev.Jof.ok w)) _ _ ⟨t, a, rfl, fit_mx t hf, rfl⟩ (Ev.SW w) w [.agg #[.int .i64 t.f0, .int .i64 t.f1, .string t.f2, .slice A t.f3.length c], .int .i64 a] (Below.refl _ _) (Ev.SW_agr w) (.cons (.com (Ev.repT hl hC)) (.cons (.com (.cel (.pur (.s rfl)))) .nil))).mono fun e w' h => Ev.post_ret h
end Go.Proofs.YtnjmilelifmfpaaGreatDoor.Pure

namespace Go.Proofs.YtnjmilelifmfpaaGreatDoor.Ev
open Go Go.RowKit
open HCore (wt wts may same height heights size sizes each alts)
open Go.Proofs.YtnjmilelifmfpaaGreatDoor.HSub (hstep nothing turn turns upV up bump putV put instV inst more hd find)
open Go.Proofs.YtnjmilelifmfpaaGreatDoor.Pure.CoreStep
set_option linter.unusedSimpArgs false
set_option linter.unusedVariables false
theorem turns_fix {g : Tm → Int → Tm} {q : Int} : ∀ {l : List Tm}, (∀ y ∈ l, turn g y q = y) → turns g l q = l
 | [], _ => rfl
 | x :: l, h => by rw [turns, h x (by simp), turns_fix fun y hy => h y (by simp [hy])]
mutual
theorem turn_id {g : Tm → Int → Tm} (hg : ∀ v b, v.f0 = 1 → g v b = v) : ∀ (x : Tm) (b : Int), turn g x b = x
 | ⟨k, m, s, l⟩, b => by
  rw [turn]
  by_cases h : k = 1
  ·rw [if_pos h]; exact hg _ _ h
  ·rw [if_neg h, turns_id hg l]
theorem turns_id {g : Tm → Int → Tm} (hg : ∀ v b, v.f0 = 1 → g v b = v) : ∀ (l : List Tm) (b : Int), turns g l b = l
 | [], _ => rfl
 | x :: l, b => by rw [turns, turn_id hg x b, turns_id hg l b]
end
theorem up_zero (x : Tm) (fr : Int) : up x 0 fr = x := turn_id (fun v b _ => by
 unfold upV
 split
 ·cases v; simp [bump]
 ·rfl) x 0
theorem turn_closed {g : Tm → Int → Tm} (hg : ∀ v b, v.f0 = 1 → v.f1 < b → g v b = v) : ∀ (n : Nat) (x : Tm) (b : Int), height x ≤ n → 0 ≤ b → may x b = true → turn g x b = x
 | 0, x, b, hn, _, _ => by rw [height_of] at hn; omega
 | n + 1, ⟨k, m, s, l⟩, b, hn, hb, hm => by
  have hp : ∀ y ∈ l, height y ≤ n := fun y hy => by have h1 := height_mem hy; have h2 : height (⟨k, m, s, l⟩ : Tm) = heights l + 1 := rfl; omega
  rw [turn]
  by_cases h1 : k = 1
  ·rw [if_pos h1]; exact hg _ _ h1 (Pure.CoreTurn.var_is ⟨k, m, s, l⟩ b h1 hm).2
  rw [if_neg h1]
  have e : turns g l (b + more k m) = l := by
   have nil : l = [] → turns g l (b + more k m) = l := fun h => by rw [h]; rfl
   have hk := kinds hm
   simp only at hk
   rcases hk with h | h | h | h | h | h | h | h
   ·exact absurd h h1
   ·subst h
    have := hm
    rw [may_is] at this
    simp at this
    exact nil this.1.1
   ·subst h
    have := hm
    rw [may_is] at this
    simp at this
    exact nil this.1.1
   ·subst h
    obtain ⟨y, hy, hmy⟩ := lam_is hm rfl
    simp only at hy
    refine turns_fix fun z hz => turn_closed hg n z _ (hp z hz) (by simp [more]; omega) ?_
    rw [hy] at hz
    rw [List.mem_singleton.1 hz]; exact hmy
   ·subst h
    obtain ⟨y, z, hl, hy, hz, _⟩ := app_is hm
    refine turns_fix fun u hu => turn_closed hg n u _ (hp u hu) (by simp [more]; omega) ?_
    rw [hl] at hu
    rw [show b + more 3 m = b by simp [more]]
    simp at hu
    rcases hu with rfl|rfl
    ·exact hy
    ·exact hz
   ·subst h
    obtain ⟨y, z, hl, hy, hz, _⟩ := op_is hm
    refine turns_fix fun u hu => turn_closed hg n u _ (hp u hu) (by simp [more]; omega) ?_
    rw [hl] at hu
    rw [show b + more 8 m = b by simp [more]]
    simp at hu
    rcases hu with rfl|rfl
    ·exact hy
    ·exact hz
   ·subst h
    have hc := con_is hm rfl
    refine turns_fix fun u hu => turn_closed hg n u _ (hp u hu) (by simp [more]; omega) ?_
    rw [show b + more 4 m = b by simp [more]]
    exact each_get hc.2.2.2 hu
   ·subst h
    obtain ⟨y, r, hl, hy, hr, _, _, _⟩ := case_is hm
    refine turns_fix fun u hu => ?_
    have hpu := hp u hu
    rw [show b + more 5 m = b by simp [more]]
    rw [hl] at hu
    rcases List.mem_cons.1 hu with rfl | hu
    ·exact turn_closed hg n u _ hpu hb hy
    obtain ⟨h60, h61, h62, h63, h64⟩ := alt_get hr u hu
    obtain ⟨q, hq⟩ := hd_one h63
    rw [hq] at h64
    have hmq := each_get h64 (List.mem_singleton_self q)
    have hqh : height q ≤ n := by rw [height_of, hq] at hpu; simp only [heights] at hpu; omega
    rw [turn_of, if_neg (by omega), h60, show more 6 u.f1 = u.f1 by simp [more], hq]
    rw [turns_fix (l := [q]) fun z hz => by rw [List.mem_singleton.1 hz]; exact turn_closed hg n q _ hqh (by omega) hmq]
    rw [← hq, ← h60]
    cases u; rfl
  rw [e]
theorem put_closed {x z : Tm} (h : may x 0 = true) : put x 0 z = x := turn_closed (fun v b _ hv => by
 unfold putV
 rw [if_neg (by omega), if_neg (by omega)]) _ x 0 (Nat.le_refl _) (Int.le_refl 0) h
def pairT (x y : Tm) : Tm := ⟨4, 0, ⟨#[80]⟩, [x, y]⟩
def varT : Tm := ⟨1, 1, ⟨#[]⟩, []⟩
def altP : Tm := ⟨6, 2, ⟨#[80]⟩, [varT]⟩
def firstT (x y : Tm) : Tm := ⟨5, 0, ⟨#[]⟩, [pairT x y, altP]⟩
def lamT (x : Tm) : Tm := ⟨2, 0, ⟨#[]⟩, [x]⟩
def konstT (x y : Tm) : Tm := ⟨3, 0, ⟨#[]⟩, [lamT x, y]⟩
theorem con_P : HCore.con ⟨#[80]⟩ = true := by decide +kernel
theorem may_up {x : Tm} (h : may x 0 = true) {q : Int} (hq : 0 ≤ q) : may x q = true := Pure.CoreMono.may_mono x 0 q hq h
theorem may_pair {x y : Tm} (hx : may x 0 = true) (hy : may y 0 = true) {q : Int} (hq : 0 ≤ q) : may (pairT x y) q = true := by
 unfold pairT; rw [may_is]; simp [con_P, each, may_up hx hq, may_up hy hq, hq]
theorem run_pair {x y : Tm} (hx : may x 0 = true) (hy : may y 0 = true) (h : size (pairT x y) ≤ 5000) : runF (pairT x y) 0 = (pairT x y, 0, 0) := by
 unfold runF
 rw [if_pos ⟨may_pair hx hy (Int.le_refl 0), by decide, by decide⟩]
 have e : hstep (pairT x y) = (pairT x y, 0) := still_none _ (.inr (.inl rfl))
 rw [show Int.toNat 0 = 0 from rfl, Pure.CoreRun.run_is, if_neg (by omega), e]; rfl
theorem step_first {x y : Tm} (hx : may x 0 = true) (hy : may y 0 = true) : stepF (firstT x y) = (x, 2) := by
 have h0 : (0 : Int) ≤ Pure.Hd.freeT := by decide
 have ha : alts [altP] Pure.Hd.freeT [] = true := by
  unfold altP varT
  simp only [alts, each, con_P]
  rw [may_is]
  decide +kernel
 have hm : may (firstT x y) Pure.Hd.freeT = true := mk_case (may_pair hx hy h0) ha (by decide) (by decide) (by decide +kernel)
 unfold stepF
 rw [if_pos hm, case_of (t := firstT x y) rfl rfl, if_neg (by unfold pairT; simp), if_pos (show (pairT x y).f0 = 4 from rfl)]
 have hf : find (pairT x y).f2.data.toList ((pairT x y).f3.length : Int) [altP] = some altP := by
  rw [find, if_pos ⟨rfl, rfl⟩]
 rw [hf]
 show (inst varT [x, y], (2 : Int)) = (x, 2)
 have : inst varT [x, y] = x := by
  show turn (instV [x, y]) varT 0 = x
  rw [turn_of, if_pos (show varT.f0 = 1 from rfl)]
  unfold instV
  rw [if_neg (by decide), if_pos (by simp [varT])]
  exact up_zero x 0
 rw [this]
theorem step_konst {x y : Tm} (hx : may x 0 = true) (hy : may y 0 = true) : stepF (konstT x y) = (x, 1) := by
 have h0 : (0 : Int) ≤ Pure.Hd.freeT := by decide
 have hl : may (lamT x) Pure.Hd.freeT = true := by
  unfold lamT; rw [may_is]; simp [each, may_up hx (show (0 : Int) ≤ Pure.Hd.freeT + 1 by decide), h0, HCore.bare]
 have hm : may (konstT x y) Pure.Hd.freeT = true := mk_app hl (may_up hy h0) (by decide +kernel)
 unfold stepF
 rw [if_pos hm, app_of (t := konstT x y) rfl rfl, if_pos (show (lamT x).f0 = 2 from rfl)]
 show (put x 0 y, (1 : Int)) = (x, 1)
 rw [put_closed hx]
theorem encT_pair {x y : Tm} : encT (pairT x y) = [.s (.int .i64 4), .s (.int .i64 0), .s (.string ⟨#[80]⟩), .row [cX x, cX y]] := by simp only [pairT, encT, encTs, encT_is x, encT_is y]
theorem encT_first {x y : Tm} : encT (firstT x y) = [.s (.int .i64 5), .s (.int .i64 0), .s (.string ⟨#[]⟩), .row [[.s (.int .i64 4), .s (.int .i64 0), .s (.string ⟨#[80]⟩), .row [cX x, cX y]], [.s (.int .i64 6), .s (.int .i64 2), .s (.string ⟨#[80]⟩), .row [[.s (.int .i64 1), .s (.int .i64 1), .s (.string ⟨#[]⟩), .row []]]]]] := by simp only [firstT, altP, varT, pairT, encT, encTs, encT_is x, encT_is y]
theorem encT_konst {x y : Tm} : encT (konstT x y) = [.s (.int .i64 3), .s (.int .i64 0), .s (.string ⟨#[]⟩), .row [[.s (.int .i64 2), .s (.int .i64 0), .s (.string ⟨#[]⟩), .row [cX x]], cX y]] := by simp only [konstT, lamT, encT, encTs, encT_is x, encT_is y]
abbrev TLLazy : Spec := fun args out => ∃ (x y : Tm), args = [.agg (encT x), .agg (encT y)] ∧ Fits9 x ∧ Fits9 y ∧ out = .ret (.s (.bool true))
set_option maxHeartbeats 4000000 in
set_option maxRecDepth 100000 in
theorem c_llazy {J : JW} (hJ : JOk J) (hf : Con Tryz.prog J 11 TFixed) : Con Tryz.prog J 6 TLLazy := by
 obtain ⟨code, h1, h2, h3, h4⟩ := k6
 refine con (ok9 hJ hf) hJ h1 h2 h3 h4 fun args out h => ?_
 obtain ⟨x, y, rfl, ⟨hxm, hxd⟩, ⟨hym, hyd⟩, rfl⟩ := h
 have s2 := height_le_size x
 have s4 := height_le_size y
 refine ⟨rfl, by rw [Tryz.ntmps6]; simp, ?_⟩
 rw [encT_is x, encT_is y]
 unfold c6
 refine hide2 fun M hM => ?_
 refine go ?_
 subst hM
 refine hide2 fun M hM => ?_
 refine go ?_
 refine call (T := TFixed) ⟨rfl, rfl⟩ ?_
 refine go ?_
 refine call (T := TSmall) ⟨x, 100, by rw [encT_is], by omega, by omega, by omega, rfl⟩ ?_
 by_cases q1 : 0 ≤ few x 100 600
 rotate_left
 ·simp only [decide_eq_false q1]
  refine go ?_
  refine call (T := TFixed) ⟨rfl, rfl⟩ ?_
  refine go ?_
  trivial
 obtain ⟨g1, g2⟩ := small_ge q1
 simp only [decide_eq_true q1]
 refine go ?_
 refine call (T := TDepth _) ⟨x, by rw [encT_is], by omega, by omega, rfl⟩ ?_
 refine go ?_
 by_cases q2 : (height x : Int) > 300
 ·simp only [q2, decide_true]
  refine go ?_
  refine call (T := TFixed) ⟨rfl, rfl⟩ ?_
  refine go ?_
  trivial
 simp only [q2, decide_false]
 refine go ?_
 refine call (T := TSmall) ⟨y, 100, by rw [encT_is], by omega, by omega, by omega, rfl⟩ ?_
 by_cases q3 : 0 ≤ few y 100 600
 rotate_left
 ·simp only [decide_eq_false q3]
  refine go ?_
  refine call (T := TFixed) ⟨rfl, rfl⟩ ?_
  refine go ?_
  trivial
 obtain ⟨f1, f2⟩ := small_ge q3
 simp only [decide_eq_true q3]
 refine go ?_
 refine call (T := TDepth _) ⟨y, by rw [encT_is], by omega, by omega, rfl⟩ ?_
 refine go ?_
 by_cases q4 : (height y : Int) > 300
 ·simp only [q4, decide_true]
  refine go ?_
  refine call (T := TFixed) ⟨rfl, rfl⟩ ?_
  refine go ?_
  trivial
 simp only [q4, decide_false]
 refine go ?_
 refine call (T := TRMay) ⟨x, 0, by rw [encT_is], by omega, by omega, by omega, by omega, rfl⟩ ?_
 cases mx0 : may x 0 with
 | false =>
  refine go ?_
  refine call (T := TFixed) ⟨rfl, rfl⟩ ?_
  refine go ?_
  trivial
 | true =>
 refine go ?_
 refine call (T := TRMay) ⟨y, 0, by rw [encT_is], by omega, by omega, by omega, by omega, rfl⟩ ?_
 cases my0 : may y 0 with
 | false =>
  refine go ?_
  refine call (T := TFixed) ⟨rfl, rfl⟩ ?_
  refine go ?_
  trivial
 | true =>
 have hwx := wt_small (x := x) (by omega) (mx_may _ x 0 (Nat.le_refl _) mx0)
 have hwy := wt_small (x := y) (by omega) (mx_may _ y 0 (Nat.le_refl _) my0)
 refine go ?_
 have sp : size (pairT x y) ≤ 1000 ∧ size (firstT x y) ≤ 1000 ∧ size (konstT x y) ≤ 1000 := by simp only [pairT, firstT, konstT, lamT, altP, varT, size, sizes]; omega
 have wp : wt (pairT x y) ≤ 3000000 ∧ wt (firstT x y) ≤ 3000000 ∧ wt (konstT x y) ≤ 3000000 := by
  have e0 : ByteArray.size ⟨#[]⟩ = 0 := rfl
  have e1 : ByteArray.size ⟨#[80]⟩ = 1 := rfl
  simp only [pairT, firstT, konstT, lamT, altP, varT, wt, wts, e0, e1]; omega
 have hp := height_le_size (pairT x y)
 subst hM
 refine hide2 fun M hM => ?_
 refine go ?_
 subst hM
 refine hide2 fun M hM => ?_
 refine go ?_
 subst hM
 refine hide2 fun M hM => ?_
 refine go ?_
 subst hM
 refine hide2 fun M hM => ?_
 refine go ?_
 refine call (T := TRun) ⟨pairT x y, 0, by rw [encT_pair], by omega, by omega, rfl⟩ ?_
 rw [run_pair mx0 my0 (by omega)]
 dsimp only
 rw [encT_pair]
 refine go ?_
 subst hM
 refine hide2 fun M hM => ?_
 refine go ?_
 refine call (T := THStep) ⟨firstT x y, by rw [encT_first], by omega, by omega, rfl⟩ ?_
 rw [step_first mx0 my0]
 dsimp only
 rw [encT_is x]
 refine go ?_
 subst hM
 refine hide2 fun M hM => ?_
 refine go ?_
 refine call (T := THStep) ⟨konstT x y, by rw [encT_konst], by omega, by omega, rfl⟩ ?_
 rw [step_konst mx0 my0]
 dsimp only
 rw [encT_is x]
 refine go ?_
 subst hM
 refine go ?_
 refine call (T := TSame _) ⟨pairT x y, pairT x y, by rw [encT_pair], by omega, by omega, rfl⟩ ?_
 rw [Pure.R6P.same_refl]
 refine go ?_
 refine call (T := TSame _) ⟨x, x, by rw [encT_is], by omega, by omega, rfl⟩ ?_
 rw [Pure.R6P.same_refl]
 refine go ?_
 refine call (T := TSame _) ⟨x, x, by rw [encT_is], by omega, by omega, rfl⟩ ?_
 rw [Pure.R6P.same_refl]
 refine go ?_
 trivial
end Go.Proofs.YtnjmilelifmfpaaGreatDoor.Ev

namespace Go.Proofs.YtnjmilelifmfpaaGreatDoor.Pure
open Go Go.RowKit Go.Proofs.YtnjmilelifmfpaaGreatDoor.Q Go.Proofs.YtnjmilelifmfpaaGreatDoorW.PrintWords Go.Proofs.YtnjmilelifmfpaaGreatDoorW.PrintLast Go.Proofs.YtnjmilelifmfpaaGreatDoorW.PrintMore
theorem HeadLazy_walk {w : World} (t : HCore.T) (A : Option Addr) (c : Nat) (t' : HCore.T) (A' : Option Addr) (c' : Nat) (hC : Kd.C k24 w A t.f3.length t.f3) (hl : t.f3.length ≤ c) (hf : CoreRdW.Fit t) (hC' : Kd.C k24 w A' t'.f3.length t'.f3) (hl' : t'.f3.length ≤ c') (hf' : CoreRdW.Fit t') :
  Calls Tryz.prog 6 #[.agg #[.int .i64 t.f0, .int .i64 t.f1, .string t.f2, .slice A t.f3.length c], .agg #[.int .i64 t'.f0, .int .i64 t'.f1, .string t'.f2, .slice A' t'.f3.length c']] w fun e w' => e = .returned (.bool true) ∧ Below w.heap.size w w' :=
 (Ev.c_llazy (Ev.Jof.ok w) (Ev.c_fixed (Ev.Jof.ok w)) _ _ ⟨t, t', rfl, fit_mx t hf, fit_mx t' hf', rfl⟩ (Ev.SW w) w [.agg #[.int .i64 t.f0, .int .i64 t.f1, .string t.f2, .slice A t.f3.length c], .agg #[.int .i64 t'.f0, .int .i64 t'.f1, .string t'.f2, .slice A' t'.f3.length c']] (Below.refl _ _) (Ev.SW_agr w) (.cons (.com (Ev.repT hl hC)) (.cons (.com (Ev.repT hl' hC')) .nil))).mono fun e w' h => Ev.post_ret h
end Go.Proofs.YtnjmilelifmfpaaGreatDoor.Pure

namespace Go.Proofs.YtnjmilelifmfpaaGreatDoor.Ev
open Go Go.RowKit
open HCore (wt wts may same height heights size sizes each alts)
open Go.Proofs.YtnjmilelifmfpaaGreatDoor.HSub (hstep nothing num)
open Go.Proofs.YtnjmilelifmfpaaGreatDoor.Pure.CoreStep
set_option linter.unusedSimpArgs false
set_option linter.unusedVariables false
def appT (x y : Tm) : Tm := ⟨3, 0, ⟨#[]⟩, [x, y]⟩
def altA (y : Tm) : Tm := ⟨6, 0, ⟨#[65]⟩, [y]⟩
def caseT (x y : Tm) : Tm := ⟨5, 0, ⟨#[]⟩, [x, altA y]⟩
def plusT (x y : Tm) : Tm := ⟨8, 0, ⟨#[43]⟩, [x, y]⟩
def lessT (x : Tm) : Tm := ⟨8, 0, ⟨#[60]⟩, [num 7, x]⟩
theorem con_A : HCore.con ⟨#[65]⟩ = true := by decide +kernel
section
variable {x y : Tm}
theorem goes (h : (hstep x).2 ≠ 0) : ¬ (x.f0 = 2 ∨ x.f0 = 4 ∨ x.f0 = 7 ∨ x.f0 = 9) := fun h' => h (by rw [still_none x h'])
theorem step_app (hx : may x 0 = true) (hy : may y 0 = true) (h : (hstep x).2 ≠ 0) : stepF (appT x y) = (appT (hstep x).1 y, (hstep x).2) := by
 have h0 : (0 : Int) ≤ Pure.Hd.freeT := by decide
 have g := goes h
 unfold stepF
 rw [if_pos (show may (appT x y) Pure.Hd.freeT = true from mk_app (may_up hx h0) (may_up hy h0) (by decide +kernel)), app_of (t := appT x y) rfl rfl, if_neg (by omega), if_neg (by omega), insideR, if_neg h]; rfl
theorem step_case (hx : may x 0 = true) (hy : may y 0 = true) (h : (hstep x).2 ≠ 0) : stepF (caseT x y) = (caseT (hstep x).1 y, (hstep x).2) := by
 have h0 : (0 : Int) ≤ Pure.Hd.freeT := by decide
 have g := goes h
 have ha : alts [altA y] Pure.Hd.freeT [] = true := by
  unfold altA
  simp only [alts, each, con_A]
  simp [may_up hy h0]
 unfold stepF
 rw [if_pos (show may (caseT x y) Pure.Hd.freeT = true from mk_case (may_up hx h0) ha (by simp) (by simp) (by decide +kernel)), case_of (t := caseT x y) rfl rfl, if_neg (by omega), if_neg (by omega), insideR, if_neg h]; rfl
theorem step_plus (hx : may x 0 = true) (hy : may y 0 = true) (h : (hstep x).2 ≠ 0) : stepF (plusT x y) = (plusT (hstep x).1 y, (hstep x).2) := by
 have h0 : (0 : Int) ≤ Pure.Hd.freeT := by decide
 have g := goes h
 unfold stepF
 rw [if_pos (show may (plusT x y) Pure.Hd.freeT = true from mk_op (may_up hx h0) (may_up hy h0) (by decide +kernel)), op_of (t := plusT x y) rfl rfl, if_neg (by unfold bad; omega), if_neg (by omega), insideR, if_neg h]; rfl
theorem step_less (hx : may x 0 = true) (h : (hstep x).2 ≠ 0) : stepF (lessT x) = (lessT (hstep x).1, (hstep x).2) := by
 have h0 : (0 : Int) ≤ Pure.Hd.freeT := by decide
 have g := goes h
 unfold stepF
 rw [if_pos (show may (lessT x) Pure.Hd.freeT = true from mk_op (may_num 7 _ h0) (may_up hx h0) (by decide +kernel)), op_of (t := lessT x) rfl rfl, if_neg (by unfold bad num; simp), if_pos (show (num 7).f0 = 7 from rfl), if_neg (by unfold bad; omega), if_neg (by omega), insideR, if_neg h]; rfl
theorem encT_app : encT (appT x y) = [.s (.int .i64 3), .s (.int .i64 0), .s (.string ⟨#[]⟩), .row [cX x, cX y]] := by simp only [appT, encT, encTs, encT_is x, encT_is y]
theorem encT_case : encT (caseT x y) = [.s (.int .i64 5), .s (.int .i64 0), .s (.string ⟨#[]⟩), .row [cX x, [.s (.int .i64 6), .s (.int .i64 0), .s (.string ⟨#[65]⟩), .row [cX y]]]] := by simp only [caseT, altA, encT, encTs, encT_is x, encT_is y]
theorem encT_plus : encT (plusT x y) = [.s (.int .i64 8), .s (.int .i64 0), .s (.string ⟨#[43]⟩), .row [cX x, cX y]] := by simp only [plusT, encT, encTs, encT_is x, encT_is y]
theorem encT_less : encT (lessT x) = [.s (.int .i64 8), .s (.int .i64 0), .s (.string ⟨#[60]⟩), .row [[.s (.int .i64 7), .s (.int .i64 7), .s (.string ⟨#[]⟩), .row []], cX x]] := by simp only [lessT, num, encT, encTs, encT_is x]
def four (x y : Tm) : List (List AV) := [[.s (.int .i64 3), .s (.int .i64 0), .s (.string ⟨#[]⟩), .row [cX x, cX y]], [.s (.int .i64 5), .s (.int .i64 0), .s (.string ⟨#[]⟩), .row [cX x, [.s (.int .i64 6), .s (.int .i64 0), .s (.string ⟨#[65]⟩), .row [cX y]]]],
 [.s (.int .i64 8), .s (.int .i64 0), .s (.string ⟨#[43]⟩), .row [cX x, cX y]], [.s (.int .i64 8), .s (.int .i64 0), .s (.string ⟨#[60]⟩), .row [[.s (.int .i64 7), .s (.int .i64 7), .s (.string ⟨#[]⟩), .row []], cX x]]]
end
def appS (x y z : Tm) (what : Int) (i : Nat) : AS := ⟨tm [(11, .s (.int .i64 (i : Int))), (9, .ref 0), (10, .ref 1), (6, .s (.int .i64 what))], bm [], bm [(0, some ⟨24, 4, four x y, true⟩), (1, some ⟨24, 4, four z y, true⟩)], 2⟩
abbrev TLApps : Spec := fun args out => ∃ (x y : Tm), args = [.agg (encT x), .agg (encT y)] ∧ Fits9 x ∧ Fits9 y ∧ out = .ret (.s (.bool true))
set_option maxHeartbeats 4000000 in
set_option maxRecDepth 100000 in
theorem c_lapps {J : JW} (hJ : JOk J) (hf : Con Tryz.prog J 11 TFixed) : Con Tryz.prog J 7 TLApps := by
 obtain ⟨code, h1, h2, h3, h4⟩ := k7
 refine con (ok9 hJ hf) hJ h1 h2 h3 h4 fun args out h => ?_
 obtain ⟨x, y, rfl, ⟨hxm, hxd⟩, ⟨hym, hyd⟩, rfl⟩ := h
 have s2 := height_le_size x
 have s4 := height_le_size y
 refine ⟨rfl, by rw [Tryz.ntmps7]; simp, ?_⟩
 rw [encT_is x, encT_is y]
 unfold c7
 refine hide2 fun M hM => ?_
 refine go ?_
 subst hM
 refine hide2 fun M hM => ?_
 refine go ?_
 refine call (T := TFixed) ⟨rfl, rfl⟩ ?_
 refine go ?_
 refine call (T := TSmall) ⟨x, 100, by rw [encT_is], by omega, by omega, by omega, rfl⟩ ?_
 by_cases q1 : 0 ≤ few x 100 600
 rotate_left
 ·simp only [decide_eq_false q1]
  refine go ?_
  refine call (T := TFixed) ⟨rfl, rfl⟩ ?_
  refine go ?_
  trivial
 obtain ⟨g1, g2⟩ := small_ge q1
 simp only [decide_eq_true q1]
 refine go ?_
 refine call (T := TDepth _) ⟨x, by rw [encT_is], by omega, by omega, rfl⟩ ?_
 refine go ?_
 by_cases q2 : (height x : Int) > 200
 ·simp only [q2, decide_true]
  refine go ?_
  refine call (T := TFixed) ⟨rfl, rfl⟩ ?_
  refine go ?_
  trivial
 simp only [q2, decide_false]
 refine go ?_
 refine call (T := TSmall) ⟨y, 100, by rw [encT_is], by omega, by omega, by omega, rfl⟩ ?_
 by_cases q3 : 0 ≤ few y 100 600
 rotate_left
 ·simp only [decide_eq_false q3]
  refine go ?_
  refine call (T := TFixed) ⟨rfl, rfl⟩ ?_
  refine go ?_
  trivial
 obtain ⟨f1, f2⟩ := small_ge q3
 simp only [decide_eq_true q3]
 refine go ?_
 refine call (T := TDepth _) ⟨y, by rw [encT_is], by omega, by omega, rfl⟩ ?_
 refine go ?_
 by_cases q4 : (height y : Int) > 200
 ·simp only [q4, decide_true]
  refine go ?_
  refine call (T := TFixed) ⟨rfl, rfl⟩ ?_
  refine go ?_
  trivial
 simp only [q4, decide_false]
 refine go ?_
 refine call (T := TRMay) ⟨x, 0, by rw [encT_is], by omega, by omega, by omega, by omega, rfl⟩ ?_
 cases mx0 : may x 0 with
 | false =>
  refine go ?_
  refine call (T := TFixed) ⟨rfl, rfl⟩ ?_
  refine go ?_
  trivial
 | true =>
 refine go ?_
 refine call (T := TRMay) ⟨y, 0, by rw [encT_is], by omega, by omega, by omega, by omega, rfl⟩ ?_
 cases my0 : may y 0 with
 | false =>
  refine go ?_
  refine call (T := TFixed) ⟨rfl, rfl⟩ ?_
  refine go ?_
  trivial
 | true =>
 have hwx := wt_small (x := x) (by omega) (mx_may _ x 0 (Nat.le_refl _) mx0)
 have hwy := wt_small (x := y) (by omega) (mx_may _ y 0 (Nat.le_refl _) my0)
 refine go ?_
 subst hM
 refine hide2 fun M hM => ?_
 refine go ?_
 refine call (T := THStep) ⟨x, by rw [encT_is], by omega, by omega, rfl⟩ ?_
 rw [show stepF x = hstep x from if_pos (may_up mx0 (by decide)), encT_is (hstep x).1]
 refine go ?_
 subst hM
 refine hide2 fun M hM => ?_
 refine go ?_
 cases e0 : ((hstep x).2 == 0) with
 | true =>
  refine go ?_
  trivial
 | false =>
 have h0 : (hstep x).2 ≠ 0 := by simpa using e0
 refine go ?_
 subst hM
 refine hide2 fun M hM => ?_
 refine go ?_
 subst hM
 refine hide2 fun M hM => ?_
 refine go ?_
 subst hM
 refine hide2 fun M hM => ?_
 refine go ?_
 subst hM
 refine hide2 fun M hM => ?_
 refine go ?_
 subst hM
 refine hide2 fun M hM => ?_
 refine go ?_
 have hq := Pure.CoreRun.size_step _ x (Nat.le_refl _)
 have hsq : size x * size x ≤ 300 * 300 := Nat.mul_le_mul (by omega) (by omega)
 have sp : size (appT x y) ≤ 2000 ∧ size (caseT x y) ≤ 2000 ∧ size (plusT x y) ≤ 2000 ∧ size (lessT x) ≤ 2000 := by simp only [appT, caseT, plusT, lessT, altA, num, size, sizes]; omega
 have wp : wt (appT x y) ≤ 3000000 ∧ wt (caseT x y) ≤ 3000000 ∧ wt (plusT x y) ≤ 3000000 ∧ wt (lessT x) ≤ 3000000 := by
  have e0 : ByteArray.size ⟨#[]⟩ = 0 := rfl
  have e1 : ByteArray.size ⟨#[65]⟩ = 1 := rfl
  have e2 : ByteArray.size ⟨#[43]⟩ = 1 := rfl
  have e3 : ByteArray.size ⟨#[60]⟩ = 1 := rfl
  simp only [appT, caseT, plusT, lessT, altA, num, wt, wts, e0, e1, e2, e3]; omega
 have sz : size (appT (hstep x).1 y) ≤ 2000000 ∧ size (caseT (hstep x).1 y) ≤ 2000000 ∧ size (plusT (hstep x).1 y) ≤ 2000000 ∧ size (lessT (hstep x).1) ≤ 2000000 := by simp only [appT, caseT, plusT, lessT, altA, num, size, sizes]; omega
 have hz1 := height_le_size (appT (hstep x).1 y)
 have hz2 := height_le_size (caseT (hstep x).1 y)
 have hz3 := height_le_size (plusT (hstep x).1 y)
 have hz4 := height_le_size (lessT (hstep x).1)
 refine count 4 (appS x y (hstep x).1 (hstep x).2) (lm [(0, 69), (1, 87)] (hG := by simp [gsub, onto, bm, four])) fun i hi => ?_
 unfold appS four
 match i, hi with
 | 0, _ =>
  refine hide2 fun N hN => ?_
  refine go ?_
  subst hN
  refine hideB fun N hN => ?_
  refine go ?_
  refine call (T := THStep) ⟨appT x y, by rw [encT_app], by omega, by omega, rfl⟩ ?_
  rw [step_app mx0 my0 h0]
  dsimp only
  rw [encT_app]
  refine go ?_
  subst hN
  refine go ?_
  simp only [bne_self_eq_false]
  refine go ?_
  refine call (T := TSame _) ⟨appT (hstep x).1 y, appT (hstep x).1 y, by rw [encT_app], by omega, by omega, rfl⟩ ?_
  rw [Pure.R6P.same_refl]
  refine go ?_
  rw [nxt (by omega)]
  exact lm [(0, 0), (1, 1)]
 | 1, _ =>
  refine hide2 fun N hN => ?_
  refine go ?_
  subst hN
  refine hideB fun N hN => ?_
  refine go ?_
  refine call (T := THStep) ⟨caseT x y, by rw [encT_case], by omega, by omega, rfl⟩ ?_
  rw [step_case mx0 my0 h0]
  dsimp only
  rw [encT_case]
  refine go ?_
  subst hN
  refine go ?_
  simp only [bne_self_eq_false]
  refine go ?_
  refine call (T := TSame _) ⟨caseT (hstep x).1 y, caseT (hstep x).1 y, by rw [encT_case], by omega, by omega, rfl⟩ ?_
  rw [Pure.R6P.same_refl]
  refine go ?_
  rw [nxt (by omega)]
  exact lm [(0, 0), (1, 1)]
 | 2, _ =>
  refine hide2 fun N hN => ?_
  refine go ?_
  subst hN
  refine hideB fun N hN => ?_
  refine go ?_
  refine call (T := THStep) ⟨plusT x y, by rw [encT_plus], by omega, by omega, rfl⟩ ?_
  rw [step_plus mx0 my0 h0]
  dsimp only
  rw [encT_plus]
  refine go ?_
  subst hN
  refine go ?_
  simp only [bne_self_eq_false]
  refine go ?_
  refine call (T := TSame _) ⟨plusT (hstep x).1 y, plusT (hstep x).1 y, by rw [encT_plus], by omega, by omega, rfl⟩ ?_
  rw [Pure.R6P.same_refl]
  refine go ?_
  rw [nxt (by omega)]
  exact lm [(0, 0), (1, 1)]
 | 3, _ =>
  refine hide2 fun N hN => ?_
  refine go ?_
  subst hN
  refine hideB fun N hN => ?_
  refine go ?_
  refine call (T := THStep) ⟨lessT x, by rw [encT_less], by omega, by omega, rfl⟩ ?_
  rw [step_less mx0 h0]
  dsimp only
  rw [encT_less]
  refine go ?_
  subst hN
  refine go ?_
  simp only [bne_self_eq_false]
  refine go ?_
  refine call (T := TSame _) ⟨lessT (hstep x).1, lessT (hstep x).1, by rw [encT_less], by omega, by omega, rfl⟩ ?_
  rw [Pure.R6P.same_refl]
  refine go ?_
  rw [nxt (by omega)]
  exact lm [(0, 0), (1, 1)]
 | 4, _ =>
  subst hM
  refine go ?_
  trivial
end Go.Proofs.YtnjmilelifmfpaaGreatDoor.Ev

namespace Go.Proofs.YtnjmilelifmfpaaGreatDoor.Pure
open Go Go.RowKit Go.Proofs.YtnjmilelifmfpaaGreatDoor.Q Go.Proofs.YtnjmilelifmfpaaGreatDoorW.PrintWords Go.Proofs.YtnjmilelifmfpaaGreatDoorW.PrintLast Go.Proofs.YtnjmilelifmfpaaGreatDoorW.PrintMore
theorem HeadApps_walk {w : World} (t : HCore.T) (A : Option Addr) (c : Nat) (t' : HCore.T) (A' : Option Addr) (c' : Nat) (hC : Kd.C k24 w A t.f3.length t.f3) (hl : t.f3.length ≤ c) (hf : CoreRdW.Fit t) (hC' : Kd.C k24 w A' t'.f3.length t'.f3) (hl' : t'.f3.length ≤ c') (hf' : CoreRdW.Fit t') :
  Calls Tryz.prog 7 #[.agg #[.int .i64 t.f0, .int .i64 t.f1, .string t.f2, .slice A t.f3.length c], .agg #[.int .i64 t'.f0, .int .i64 t'.f1, .string t'.f2, .slice A' t'.f3.length c']] w fun e w' => e = .returned (.bool true) ∧ Below w.heap.size w w' :=
 (Ev.c_lapps (Ev.Jof.ok w) (Ev.c_fixed (Ev.Jof.ok w)) _ _ ⟨t, t', rfl, fit_mx t hf, fit_mx t' hf', rfl⟩ (Ev.SW w) w [.agg #[.int .i64 t.f0, .int .i64 t.f1, .string t.f2, .slice A t.f3.length c], .agg #[.int .i64 t'.f0, .int .i64 t'.f1, .string t'.f2, .slice A' t'.f3.length c']] (Below.refl _ _) (Ev.SW_agr w) (.cons (.com (Ev.repT hl hC)) (.cons (.com (Ev.repT hl' hC')) .nil))).mono fun e w' h => Ev.post_ret h
end Go.Proofs.YtnjmilelifmfpaaGreatDoor.Pure
