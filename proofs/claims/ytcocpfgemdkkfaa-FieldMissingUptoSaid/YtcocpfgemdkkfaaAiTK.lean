/-
  The table of this seat's types is its program's; printed by wip/tools/tok.py.
-/
import Derived.Test.YtcocpfgemdkkfaaAiTT
import Derived.Test.YtcocpfgemdkkfaaAiTie
import Derived.Test.YtcocpfgemdkkfaaProg
set_option maxRecDepth 100000
set_option linter.unusedVariables false
namespace Go.Proofs.Ytcocpfgemdkkfaa
open Go Go.Yard

theorem ttLen : tt.length = 152 := by kernel_rfl
theorem und1 : (tt.at 1).d.Is Try.prog 1 := ⟨_, _, _, rfl⟩
theorem inf1 : InfoOk Try.prog tt 1 := ⟨Try.t1, by kernel_rfl, by kernel_rfl, by kernel_rfl, by kernel_rfl⟩
theorem und2 : (tt.at 2).d.Is Try.prog 2 := (by kernel_rfl : Try.prog.underlying 2 = some (.int .i64))
theorem inf2 : InfoOk Try.prog tt 2 := ⟨Try.t2, by kernel_rfl, by kernel_rfl, by kernel_rfl, by kernel_rfl⟩
theorem und3 : (tt.at 3).d.Is Try.prog 3 := (by kernel_rfl : Try.prog.underlying 3 = some (.int .i64))
theorem inf3 : InfoOk Try.prog tt 3 := ⟨Try.t3, by kernel_rfl, by kernel_rfl, by kernel_rfl, by kernel_rfl⟩
theorem und4 : (tt.at 4).d.Is Try.prog 4 := (by kernel_rfl : Try.prog.underlying 4 = some .bool)
theorem inf4 : InfoOk Try.prog tt 4 := ⟨Try.t4, by kernel_rfl, by kernel_rfl, by kernel_rfl, by kernel_rfl⟩
theorem und5 : (tt.at 5).d.Is Try.prog 5 := (by kernel_rfl : Try.prog.underlying 5 = some (.int .u8))
theorem inf5 : InfoOk Try.prog tt 5 := ⟨Try.t5, by kernel_rfl, by kernel_rfl, by kernel_rfl, by kernel_rfl⟩
theorem und6 : (tt.at 6).d.Is Try.prog 6 := (by kernel_rfl : Try.prog.underlying 6 = some (.int .u8))
theorem inf6 : InfoOk Try.prog tt 6 := ⟨Try.t6, by kernel_rfl, by kernel_rfl, by kernel_rfl, by kernel_rfl⟩
theorem und7 : (tt.at 7).d.Is Try.prog 7 := ⟨Try.prog.fieldsOf 7, by kernel_rfl, by kernel_rfl⟩
theorem inf7 : InfoOk Try.prog tt 7 := ⟨Try.t7, by kernel_rfl, by kernel_rfl, by kernel_rfl, by kernel_rfl⟩
theorem und8 : (tt.at 8).d.Is Try.prog 8 := ⟨Try.prog.fieldsOf 8, by kernel_rfl, by kernel_rfl⟩
theorem inf8 : InfoOk Try.prog tt 8 := ⟨Try.t8, by kernel_rfl, by kernel_rfl, by kernel_rfl, by kernel_rfl⟩
theorem und9 : (tt.at 9).d.Is Try.prog 9 := (by kernel_rfl : Try.prog.underlying 9 = some .string)
theorem inf9 : InfoOk Try.prog tt 9 := ⟨Try.t9, by kernel_rfl, by kernel_rfl, by kernel_rfl, by kernel_rfl⟩
theorem und10 : (tt.at 10).d.Is Try.prog 10 := (by kernel_rfl : Try.prog.underlying 10 = some .string)
theorem inf10 : InfoOk Try.prog tt 10 := ⟨Try.t10, by kernel_rfl, by kernel_rfl, by kernel_rfl, by kernel_rfl⟩
theorem und11 : (tt.at 11).d.Is Try.prog 11 := (by kernel_rfl : Try.prog.underlying 11 = some .string)
theorem inf11 : InfoOk Try.prog tt 11 := ⟨Try.t11, by kernel_rfl, by kernel_rfl, by kernel_rfl, by kernel_rfl⟩
theorem und12 : (tt.at 12).d.Is Try.prog 12 := (by kernel_rfl : Try.prog.underlying 12 = some (.int .u64))
theorem inf12 : InfoOk Try.prog tt 12 := ⟨Try.t12, by kernel_rfl, by kernel_rfl, by kernel_rfl, by kernel_rfl⟩
theorem und13 : (tt.at 13).d.Is Try.prog 13 := ⟨Try.prog.fieldsOf 13, by kernel_rfl, by kernel_rfl⟩
theorem inf13 : InfoOk Try.prog tt 13 := ⟨Try.t13, by kernel_rfl, by kernel_rfl, by kernel_rfl, by kernel_rfl⟩
theorem und14 : (tt.at 14).d.Is Try.prog 14 := ⟨Try.prog.fieldsOf 14, by kernel_rfl, by kernel_rfl⟩
theorem inf14 : InfoOk Try.prog tt 14 := ⟨Try.t14, by kernel_rfl, by kernel_rfl, by kernel_rfl, by kernel_rfl⟩
theorem und15 : (tt.at 15).d.Is Try.prog 15 := (by kernel_rfl : Try.prog.underlying 15 = some (.pointer 136))
theorem inf15 : InfoOk Try.prog tt 15 := ⟨Try.t15, by kernel_rfl, by kernel_rfl, by kernel_rfl, by kernel_rfl⟩
theorem und16 : (tt.at 16).d.Is Try.prog 16 := (by kernel_rfl : Try.prog.underlying 16 = some (.pointer 139))
theorem inf16 : InfoOk Try.prog tt 16 := ⟨Try.t16, by kernel_rfl, by kernel_rfl, by kernel_rfl, by kernel_rfl⟩
theorem und17 : (tt.at 17).d.Is Try.prog 17 := (by kernel_rfl : Try.prog.underlying 17 = some (.pointer 149))
theorem inf17 : InfoOk Try.prog tt 17 := ⟨Try.t17, by kernel_rfl, by kernel_rfl, by kernel_rfl, by kernel_rfl⟩
theorem und18 : (tt.at 18).d.Is Try.prog 18 := ⟨Try.prog.fieldsOf 18, by kernel_rfl, by kernel_rfl⟩
theorem inf18 : InfoOk Try.prog tt 18 := ⟨Try.t18, by kernel_rfl, by kernel_rfl, by kernel_rfl, by kernel_rfl⟩
theorem und19 : (tt.at 19).d.Is Try.prog 19 := ⟨Try.prog.fieldsOf 19, by kernel_rfl, by kernel_rfl⟩
theorem inf19 : InfoOk Try.prog tt 19 := ⟨Try.t19, by kernel_rfl, by kernel_rfl, by kernel_rfl, by kernel_rfl⟩
theorem und20 : (tt.at 20).d.Is Try.prog 20 := ⟨_, rfl⟩
theorem inf20 : InfoOk Try.prog tt 20 := ⟨Try.t20, by kernel_rfl, by kernel_rfl, by kernel_rfl, by kernel_rfl⟩
theorem und21 : (tt.at 21).d.Is Try.prog 21 := (by kernel_rfl : Try.prog.underlying 21 = some (.int .i32))
theorem inf21 : InfoOk Try.prog tt 21 := ⟨Try.t21, by kernel_rfl, by kernel_rfl, by kernel_rfl, by kernel_rfl⟩
theorem und22 : (tt.at 22).d.Is Try.prog 22 := (by kernel_rfl : Try.prog.underlying 22 = some (.slice 9))
theorem inf22 : InfoOk Try.prog tt 22 := ⟨Try.t22, by kernel_rfl, by kernel_rfl, by kernel_rfl, by kernel_rfl⟩
theorem und23 : (tt.at 23).d.Is Try.prog 23 := ⟨_, _, _, rfl⟩
theorem inf23 : InfoOk Try.prog tt 23 := ⟨Try.t23, by kernel_rfl, by kernel_rfl, by kernel_rfl, by kernel_rfl⟩
theorem und24 : (tt.at 24).d.Is Try.prog 24 := (by kernel_rfl : Try.prog.underlying 24 = some (.pointer 91))
theorem inf24 : InfoOk Try.prog tt 24 := ⟨Try.t24, by kernel_rfl, by kernel_rfl, by kernel_rfl, by kernel_rfl⟩
theorem und25 : (tt.at 25).d.Is Try.prog 25 := ⟨_, _, _, rfl⟩
theorem inf25 : InfoOk Try.prog tt 25 := ⟨Try.t25, by kernel_rfl, by kernel_rfl, by kernel_rfl, by kernel_rfl⟩
theorem und26 : (tt.at 26).d.Is Try.prog 26 := ⟨_, _, _, rfl⟩
theorem inf26 : InfoOk Try.prog tt 26 := ⟨Try.t26, by kernel_rfl, by kernel_rfl, by kernel_rfl, by kernel_rfl⟩
theorem und27 : (tt.at 27).d.Is Try.prog 27 := ⟨Try.prog.fieldsOf 27, by kernel_rfl, by kernel_rfl⟩
theorem inf27 : InfoOk Try.prog tt 27 := ⟨Try.t27, by kernel_rfl, by kernel_rfl, by kernel_rfl, by kernel_rfl⟩
theorem und28 : (tt.at 28).d.Is Try.prog 28 := ⟨Try.prog.fieldsOf 28, by kernel_rfl, by kernel_rfl⟩
theorem inf28 : InfoOk Try.prog tt 28 := ⟨Try.t28, by kernel_rfl, by kernel_rfl, by kernel_rfl, by kernel_rfl⟩
theorem und30 : (tt.at 30).d.Is Try.prog 30 := ⟨_, _, _, rfl⟩
theorem inf30 : InfoOk Try.prog tt 30 := ⟨Try.t30, by kernel_rfl, by kernel_rfl, by kernel_rfl, by kernel_rfl⟩
theorem und31 : (tt.at 31).d.Is Try.prog 31 := ⟨_, _, _, rfl⟩
theorem inf31 : InfoOk Try.prog tt 31 := ⟨Try.t31, by kernel_rfl, by kernel_rfl, by kernel_rfl, by kernel_rfl⟩
theorem und32 : (tt.at 32).d.Is Try.prog 32 := ⟨_, _, _, rfl⟩
theorem inf32 : InfoOk Try.prog tt 32 := ⟨Try.t32, by kernel_rfl, by kernel_rfl, by kernel_rfl, by kernel_rfl⟩
theorem und33 : (tt.at 33).d.Is Try.prog 33 := (by kernel_rfl : Try.prog.underlying 33 = some (.slice 28))
theorem inf33 : InfoOk Try.prog tt 33 := ⟨Try.t33, by kernel_rfl, by kernel_rfl, by kernel_rfl, by kernel_rfl⟩
theorem und34 : (tt.at 34).d.Is Try.prog 34 := ⟨_, _, _, rfl⟩
theorem inf34 : InfoOk Try.prog tt 34 := ⟨Try.t34, by kernel_rfl, by kernel_rfl, by kernel_rfl, by kernel_rfl⟩
theorem und35 : (tt.at 35).d.Is Try.prog 35 := ⟨_, _, _, rfl⟩
theorem inf35 : InfoOk Try.prog tt 35 := ⟨Try.t35, by kernel_rfl, by kernel_rfl, by kernel_rfl, by kernel_rfl⟩
theorem und36 : (tt.at 36).d.Is Try.prog 36 := ⟨_, _, _, rfl⟩
theorem inf36 : InfoOk Try.prog tt 36 := ⟨Try.t36, by kernel_rfl, by kernel_rfl, by kernel_rfl, by kernel_rfl⟩
theorem und37 : (tt.at 37).d.Is Try.prog 37 := ⟨_, _, _, rfl⟩
theorem inf37 : InfoOk Try.prog tt 37 := ⟨Try.t37, by kernel_rfl, by kernel_rfl, by kernel_rfl, by kernel_rfl⟩
theorem und38 : (tt.at 38).d.Is Try.prog 38 := (by kernel_rfl : Try.prog.underlying 38 = some (.slice 45))
theorem inf38 : InfoOk Try.prog tt 38 := ⟨Try.t38, by kernel_rfl, by kernel_rfl, by kernel_rfl, by kernel_rfl⟩
theorem und39 : (tt.at 39).d.Is Try.prog 39 := (by kernel_rfl : Try.prog.underlying 39 = some (.slice 42))
theorem inf39 : InfoOk Try.prog tt 39 := ⟨Try.t39, by kernel_rfl, by kernel_rfl, by kernel_rfl, by kernel_rfl⟩
theorem und40 : (tt.at 40).d.Is Try.prog 40 := (by kernel_rfl : Try.prog.underlying 40 = some (.slice 3))
theorem inf40 : InfoOk Try.prog tt 40 := ⟨Try.t40, by kernel_rfl, by kernel_rfl, by kernel_rfl, by kernel_rfl⟩
theorem und41 : (tt.at 41).d.Is Try.prog 41 := ⟨Try.prog.fieldsOf 41, by kernel_rfl, by kernel_rfl⟩
theorem inf41 : InfoOk Try.prog tt 41 := ⟨Try.t41, by kernel_rfl, by kernel_rfl, by kernel_rfl, by kernel_rfl⟩
theorem und42 : (tt.at 42).d.Is Try.prog 42 := ⟨Try.prog.fieldsOf 42, by kernel_rfl, by kernel_rfl⟩
theorem inf42 : InfoOk Try.prog tt 42 := ⟨Try.t42, by kernel_rfl, by kernel_rfl, by kernel_rfl, by kernel_rfl⟩
theorem und43 : (tt.at 43).d.Is Try.prog 43 := (by kernel_rfl : Try.prog.underlying 43 = some (.slice 49))
theorem inf43 : InfoOk Try.prog tt 43 := ⟨Try.t43, by kernel_rfl, by kernel_rfl, by kernel_rfl, by kernel_rfl⟩
theorem und44 : (tt.at 44).d.Is Try.prog 44 := ⟨Try.prog.fieldsOf 44, by kernel_rfl, by kernel_rfl⟩
theorem inf44 : InfoOk Try.prog tt 44 := ⟨Try.t44, by kernel_rfl, by kernel_rfl, by kernel_rfl, by kernel_rfl⟩
theorem und45 : (tt.at 45).d.Is Try.prog 45 := ⟨Try.prog.fieldsOf 45, by kernel_rfl, by kernel_rfl⟩
theorem inf45 : InfoOk Try.prog tt 45 := ⟨Try.t45, by kernel_rfl, by kernel_rfl, by kernel_rfl, by kernel_rfl⟩
theorem und46 : (tt.at 46).d.Is Try.prog 46 := ⟨Try.prog.fieldsOf 46, by kernel_rfl, by kernel_rfl⟩
theorem inf46 : InfoOk Try.prog tt 46 := ⟨Try.t46, by kernel_rfl, by kernel_rfl, by kernel_rfl, by kernel_rfl⟩
theorem und47 : (tt.at 47).d.Is Try.prog 47 := ⟨Try.prog.fieldsOf 47, by kernel_rfl, by kernel_rfl⟩
theorem inf47 : InfoOk Try.prog tt 47 := ⟨Try.t47, by kernel_rfl, by kernel_rfl, by kernel_rfl, by kernel_rfl⟩
theorem und48 : (tt.at 48).d.Is Try.prog 48 := ⟨Try.prog.fieldsOf 48, by kernel_rfl, by kernel_rfl⟩
theorem inf48 : InfoOk Try.prog tt 48 := ⟨Try.t48, by kernel_rfl, by kernel_rfl, by kernel_rfl, by kernel_rfl⟩
theorem und49 : (tt.at 49).d.Is Try.prog 49 := ⟨Try.prog.fieldsOf 49, by kernel_rfl, by kernel_rfl⟩
theorem inf49 : InfoOk Try.prog tt 49 := ⟨Try.t49, by kernel_rfl, by kernel_rfl, by kernel_rfl, by kernel_rfl⟩
theorem und50 : (tt.at 50).d.Is Try.prog 50 := ⟨_, _, _, rfl⟩
theorem inf50 : InfoOk Try.prog tt 50 := ⟨Try.t50, by kernel_rfl, by kernel_rfl, by kernel_rfl, by kernel_rfl⟩
theorem und51 : (tt.at 51).d.Is Try.prog 51 := ⟨_, _, _, rfl⟩
theorem inf51 : InfoOk Try.prog tt 51 := ⟨Try.t51, by kernel_rfl, by kernel_rfl, by kernel_rfl, by kernel_rfl⟩
theorem und52 : (tt.at 52).d.Is Try.prog 52 := ⟨_, _, _, rfl⟩
theorem inf52 : InfoOk Try.prog tt 52 := ⟨Try.t52, by kernel_rfl, by kernel_rfl, by kernel_rfl, by kernel_rfl⟩
theorem und53 : (tt.at 53).d.Is Try.prog 53 := ⟨_, _, _, rfl⟩
theorem inf53 : InfoOk Try.prog tt 53 := ⟨Try.t53, by kernel_rfl, by kernel_rfl, by kernel_rfl, by kernel_rfl⟩
theorem und54 : (tt.at 54).d.Is Try.prog 54 := ⟨_, _, _, rfl⟩
theorem inf54 : InfoOk Try.prog tt 54 := ⟨Try.t54, by kernel_rfl, by kernel_rfl, by kernel_rfl, by kernel_rfl⟩
theorem und56 : (tt.at 56).d.Is Try.prog 56 := ⟨_, _, _, rfl⟩
theorem inf56 : InfoOk Try.prog tt 56 := ⟨Try.t56, by kernel_rfl, by kernel_rfl, by kernel_rfl, by kernel_rfl⟩
theorem und57 : (tt.at 57).d.Is Try.prog 57 := ⟨_, _, _, rfl⟩
theorem inf57 : InfoOk Try.prog tt 57 := ⟨Try.t57, by kernel_rfl, by kernel_rfl, by kernel_rfl, by kernel_rfl⟩
theorem und58 : (tt.at 58).d.Is Try.prog 58 := ⟨_, _, _, rfl⟩
theorem inf58 : InfoOk Try.prog tt 58 := ⟨Try.t58, by kernel_rfl, by kernel_rfl, by kernel_rfl, by kernel_rfl⟩
theorem und60 : (tt.at 60).d.Is Try.prog 60 := ⟨_, _, _, rfl⟩
theorem inf60 : InfoOk Try.prog tt 60 := ⟨Try.t60, by kernel_rfl, by kernel_rfl, by kernel_rfl, by kernel_rfl⟩
theorem und62 : (tt.at 62).d.Is Try.prog 62 := ⟨_, _, _, rfl⟩
theorem inf62 : InfoOk Try.prog tt 62 := ⟨Try.t62, by kernel_rfl, by kernel_rfl, by kernel_rfl, by kernel_rfl⟩
theorem und64 : (tt.at 64).d.Is Try.prog 64 := ⟨_, _, _, rfl⟩
theorem inf64 : InfoOk Try.prog tt 64 := ⟨Try.t64, by kernel_rfl, by kernel_rfl, by kernel_rfl, by kernel_rfl⟩
theorem und66 : (tt.at 66).d.Is Try.prog 66 := ⟨_, _, _, rfl⟩
theorem inf66 : InfoOk Try.prog tt 66 := ⟨Try.t66, by kernel_rfl, by kernel_rfl, by kernel_rfl, by kernel_rfl⟩
theorem und67 : (tt.at 67).d.Is Try.prog 67 := ⟨_, _, _, rfl⟩
theorem inf67 : InfoOk Try.prog tt 67 := ⟨Try.t67, by kernel_rfl, by kernel_rfl, by kernel_rfl, by kernel_rfl⟩
theorem und68 : (tt.at 68).d.Is Try.prog 68 := ⟨_, _, _, rfl⟩
theorem inf68 : InfoOk Try.prog tt 68 := ⟨Try.t68, by kernel_rfl, by kernel_rfl, by kernel_rfl, by kernel_rfl⟩
theorem und69 : (tt.at 69).d.Is Try.prog 69 := ⟨_, _, _, rfl⟩
theorem inf69 : InfoOk Try.prog tt 69 := ⟨Try.t69, by kernel_rfl, by kernel_rfl, by kernel_rfl, by kernel_rfl⟩
theorem und70 : (tt.at 70).d.Is Try.prog 70 := ⟨_, _, _, rfl⟩
theorem inf70 : InfoOk Try.prog tt 70 := ⟨Try.t70, by kernel_rfl, by kernel_rfl, by kernel_rfl, by kernel_rfl⟩
theorem und71 : (tt.at 71).d.Is Try.prog 71 := ⟨_, _, _, rfl⟩
theorem inf71 : InfoOk Try.prog tt 71 := ⟨Try.t71, by kernel_rfl, by kernel_rfl, by kernel_rfl, by kernel_rfl⟩
theorem und72 : (tt.at 72).d.Is Try.prog 72 := ⟨_, _, _, rfl⟩
theorem inf72 : InfoOk Try.prog tt 72 := ⟨Try.t72, by kernel_rfl, by kernel_rfl, by kernel_rfl, by kernel_rfl⟩
theorem und73 : (tt.at 73).d.Is Try.prog 73 := ⟨_, _, _, rfl⟩
theorem inf73 : InfoOk Try.prog tt 73 := ⟨Try.t73, by kernel_rfl, by kernel_rfl, by kernel_rfl, by kernel_rfl⟩
theorem und74 : (tt.at 74).d.Is Try.prog 74 := ⟨_, _, _, rfl⟩
theorem inf74 : InfoOk Try.prog tt 74 := ⟨Try.t74, by kernel_rfl, by kernel_rfl, by kernel_rfl, by kernel_rfl⟩
theorem und75 : (tt.at 75).d.Is Try.prog 75 := ⟨_, _, _, rfl⟩
theorem inf75 : InfoOk Try.prog tt 75 := ⟨Try.t75, by kernel_rfl, by kernel_rfl, by kernel_rfl, by kernel_rfl⟩
theorem und76 : (tt.at 76).d.Is Try.prog 76 := ⟨_, _, _, rfl⟩
theorem inf76 : InfoOk Try.prog tt 76 := ⟨Try.t76, by kernel_rfl, by kernel_rfl, by kernel_rfl, by kernel_rfl⟩
theorem und77 : (tt.at 77).d.Is Try.prog 77 := (by kernel_rfl : Try.prog.underlying 77 = some (.slice 81))
theorem inf77 : InfoOk Try.prog tt 77 := ⟨Try.t77, by kernel_rfl, by kernel_rfl, by kernel_rfl, by kernel_rfl⟩
theorem und78 : (tt.at 78).d.Is Try.prog 78 := (by kernel_rfl : Try.prog.underlying 78 = some (.pointer 120))
theorem inf78 : InfoOk Try.prog tt 78 := ⟨Try.t78, by kernel_rfl, by kernel_rfl, by kernel_rfl, by kernel_rfl⟩
theorem und79 : (tt.at 79).d.Is Try.prog 79 := ⟨_, _, _, rfl⟩
theorem inf79 : InfoOk Try.prog tt 79 := ⟨Try.t79, by kernel_rfl, by kernel_rfl, by kernel_rfl, by kernel_rfl⟩
theorem und80 : (tt.at 80).d.Is Try.prog 80 := ⟨Try.prog.fieldsOf 80, by kernel_rfl, by kernel_rfl⟩
theorem inf80 : InfoOk Try.prog tt 80 := ⟨Try.t80, by kernel_rfl, by kernel_rfl, by kernel_rfl, by kernel_rfl⟩
theorem und81 : (tt.at 81).d.Is Try.prog 81 := ⟨Try.prog.fieldsOf 81, by kernel_rfl, by kernel_rfl⟩
theorem inf81 : InfoOk Try.prog tt 81 := ⟨Try.t81, by kernel_rfl, by kernel_rfl, by kernel_rfl, by kernel_rfl⟩
theorem und82 : (tt.at 82).d.Is Try.prog 82 := ⟨_, _, _, rfl⟩
theorem inf82 : InfoOk Try.prog tt 82 := ⟨Try.t82, by kernel_rfl, by kernel_rfl, by kernel_rfl, by kernel_rfl⟩
theorem und83 : (tt.at 83).d.Is Try.prog 83 := (by kernel_rfl : Try.prog.underlying 83 = some (.map 9 4))
theorem inf83 : InfoOk Try.prog tt 83 := ⟨Try.t83, by kernel_rfl, by kernel_rfl, by kernel_rfl, by kernel_rfl⟩
theorem und84 : (tt.at 84).d.Is Try.prog 84 := ⟨_, _, _, rfl⟩
theorem inf84 : InfoOk Try.prog tt 84 := ⟨Try.t84, by kernel_rfl, by kernel_rfl, by kernel_rfl, by kernel_rfl⟩
theorem und85 : (tt.at 85).d.Is Try.prog 85 := ⟨Try.prog.fieldsOf 85, by kernel_rfl, by kernel_rfl⟩
theorem inf85 : InfoOk Try.prog tt 85 := ⟨Try.t85, by kernel_rfl, by kernel_rfl, by kernel_rfl, by kernel_rfl⟩
theorem und86 : (tt.at 86).d.Is Try.prog 86 := ⟨Try.prog.fieldsOf 86, by kernel_rfl, by kernel_rfl⟩
theorem inf86 : InfoOk Try.prog tt 86 := ⟨Try.t86, by kernel_rfl, by kernel_rfl, by kernel_rfl, by kernel_rfl⟩
theorem und87 : (tt.at 87).d.Is Try.prog 87 := ⟨Try.prog.fieldsOf 87, by kernel_rfl, by kernel_rfl⟩
theorem inf87 : InfoOk Try.prog tt 87 := ⟨Try.t87, by kernel_rfl, by kernel_rfl, by kernel_rfl, by kernel_rfl⟩
theorem und88 : (tt.at 88).d.Is Try.prog 88 := ⟨Try.prog.fieldsOf 88, by kernel_rfl, by kernel_rfl⟩
theorem inf88 : InfoOk Try.prog tt 88 := ⟨Try.t88, by kernel_rfl, by kernel_rfl, by kernel_rfl, by kernel_rfl⟩
theorem und89 : (tt.at 89).d.Is Try.prog 89 := ⟨Try.prog.fieldsOf 89, by kernel_rfl, by kernel_rfl⟩
theorem inf89 : InfoOk Try.prog tt 89 := ⟨Try.t89, by kernel_rfl, by kernel_rfl, by kernel_rfl, by kernel_rfl⟩
theorem und90 : (tt.at 90).d.Is Try.prog 90 := ⟨Try.prog.fieldsOf 90, by kernel_rfl, by kernel_rfl⟩
theorem inf90 : InfoOk Try.prog tt 90 := ⟨Try.t90, by kernel_rfl, by kernel_rfl, by kernel_rfl, by kernel_rfl⟩
theorem und91 : (tt.at 91).d.Is Try.prog 91 := ⟨Try.prog.fieldsOf 91, by kernel_rfl, by kernel_rfl⟩
theorem inf91 : InfoOk Try.prog tt 91 := ⟨Try.t91, by kernel_rfl, by kernel_rfl, by kernel_rfl, by kernel_rfl⟩
theorem und92 : (tt.at 92).d.Is Try.prog 92 := ⟨_, _, _, rfl⟩
theorem inf92 : InfoOk Try.prog tt 92 := ⟨Try.t92, by kernel_rfl, by kernel_rfl, by kernel_rfl, by kernel_rfl⟩
theorem und93 : (tt.at 93).d.Is Try.prog 93 := ⟨_, _, _, rfl⟩
theorem inf93 : InfoOk Try.prog tt 93 := ⟨Try.t93, by kernel_rfl, by kernel_rfl, by kernel_rfl, by kernel_rfl⟩
theorem und94 : (tt.at 94).d.Is Try.prog 94 := (by kernel_rfl : Try.prog.underlying 94 = some (.pointer 28))
theorem inf94 : InfoOk Try.prog tt 94 := ⟨Try.t94, by kernel_rfl, by kernel_rfl, by kernel_rfl, by kernel_rfl⟩
theorem und95 : (tt.at 95).d.Is Try.prog 95 := ⟨_, _, _, rfl⟩
theorem inf95 : InfoOk Try.prog tt 95 := ⟨Try.t95, by kernel_rfl, by kernel_rfl, by kernel_rfl, by kernel_rfl⟩
theorem und96 : (tt.at 96).d.Is Try.prog 96 := ⟨_, _, _, rfl⟩
theorem inf96 : InfoOk Try.prog tt 96 := ⟨Try.t96, by kernel_rfl, by kernel_rfl, by kernel_rfl, by kernel_rfl⟩
theorem und97 : (tt.at 97).d.Is Try.prog 97 := ⟨_, _, _, rfl⟩
theorem inf97 : InfoOk Try.prog tt 97 := ⟨Try.t97, by kernel_rfl, by kernel_rfl, by kernel_rfl, by kernel_rfl⟩
theorem und98 : (tt.at 98).d.Is Try.prog 98 := ⟨_, _, _, rfl⟩
theorem inf98 : InfoOk Try.prog tt 98 := ⟨Try.t98, by kernel_rfl, by kernel_rfl, by kernel_rfl, by kernel_rfl⟩
theorem und99 : (tt.at 99).d.Is Try.prog 99 := (by kernel_rfl : Try.prog.underlying 99 = some (.slice 5))
theorem inf99 : InfoOk Try.prog tt 99 := ⟨Try.t99, by kernel_rfl, by kernel_rfl, by kernel_rfl, by kernel_rfl⟩
theorem und100 : (tt.at 100).d.Is Try.prog 100 := ⟨_, _, _, rfl⟩
theorem inf100 : InfoOk Try.prog tt 100 := ⟨Try.t100, by kernel_rfl, by kernel_rfl, by kernel_rfl, by kernel_rfl⟩
theorem und101 : (tt.at 101).d.Is Try.prog 101 := ⟨_, _, _, rfl⟩
theorem inf101 : InfoOk Try.prog tt 101 := ⟨Try.t101, by kernel_rfl, by kernel_rfl, by kernel_rfl, by kernel_rfl⟩
theorem und102 : (tt.at 102).d.Is Try.prog 102 := ⟨_, _, _, rfl⟩
theorem inf102 : InfoOk Try.prog tt 102 := ⟨Try.t102, by kernel_rfl, by kernel_rfl, by kernel_rfl, by kernel_rfl⟩
theorem und103 : (tt.at 103).d.Is Try.prog 103 := ⟨_, _, _, rfl⟩
theorem inf103 : InfoOk Try.prog tt 103 := ⟨Try.t103, by kernel_rfl, by kernel_rfl, by kernel_rfl, by kernel_rfl⟩
theorem und104 : (tt.at 104).d.Is Try.prog 104 := ⟨_, _, _, rfl⟩
theorem inf104 : InfoOk Try.prog tt 104 := ⟨Try.t104, by kernel_rfl, by kernel_rfl, by kernel_rfl, by kernel_rfl⟩
theorem und105 : (tt.at 105).d.Is Try.prog 105 := ⟨_, _, _, rfl⟩
theorem inf105 : InfoOk Try.prog tt 105 := ⟨Try.t105, by kernel_rfl, by kernel_rfl, by kernel_rfl, by kernel_rfl⟩
theorem und106 : (tt.at 106).d.Is Try.prog 106 := ⟨_, _, _, rfl⟩
theorem inf106 : InfoOk Try.prog tt 106 := ⟨Try.t106, by kernel_rfl, by kernel_rfl, by kernel_rfl, by kernel_rfl⟩
theorem und107 : (tt.at 107).d.Is Try.prog 107 := ⟨_, _, _, rfl⟩
theorem inf107 : InfoOk Try.prog tt 107 := ⟨Try.t107, by kernel_rfl, by kernel_rfl, by kernel_rfl, by kernel_rfl⟩
theorem und108 : (tt.at 108).d.Is Try.prog 108 := ⟨_, _, _, rfl⟩
theorem inf108 : InfoOk Try.prog tt 108 := ⟨Try.t108, by kernel_rfl, by kernel_rfl, by kernel_rfl, by kernel_rfl⟩
theorem und109 : (tt.at 109).d.Is Try.prog 109 := ⟨_, _, _, rfl⟩
theorem inf109 : InfoOk Try.prog tt 109 := ⟨Try.t109, by kernel_rfl, by kernel_rfl, by kernel_rfl, by kernel_rfl⟩
theorem und110 : (tt.at 110).d.Is Try.prog 110 := ⟨_, _, _, rfl⟩
theorem inf110 : InfoOk Try.prog tt 110 := ⟨Try.t110, by kernel_rfl, by kernel_rfl, by kernel_rfl, by kernel_rfl⟩
theorem und111 : (tt.at 111).d.Is Try.prog 111 := ⟨_, _, _, rfl⟩
theorem inf111 : InfoOk Try.prog tt 111 := ⟨Try.t111, by kernel_rfl, by kernel_rfl, by kernel_rfl, by kernel_rfl⟩
theorem und112 : (tt.at 112).d.Is Try.prog 112 := ⟨_, _, _, rfl⟩
theorem inf112 : InfoOk Try.prog tt 112 := ⟨Try.t112, by kernel_rfl, by kernel_rfl, by kernel_rfl, by kernel_rfl⟩
theorem und113 : (tt.at 113).d.Is Try.prog 113 := ⟨_, _, _, rfl⟩
theorem inf113 : InfoOk Try.prog tt 113 := ⟨Try.t113, by kernel_rfl, by kernel_rfl, by kernel_rfl, by kernel_rfl⟩
theorem und114 : (tt.at 114).d.Is Try.prog 114 := ⟨_, _, _, rfl⟩
theorem inf114 : InfoOk Try.prog tt 114 := ⟨Try.t114, by kernel_rfl, by kernel_rfl, by kernel_rfl, by kernel_rfl⟩
theorem und115 : (tt.at 115).d.Is Try.prog 115 := ⟨_, _, _, rfl⟩
theorem inf115 : InfoOk Try.prog tt 115 := ⟨Try.t115, by kernel_rfl, by kernel_rfl, by kernel_rfl, by kernel_rfl⟩
theorem und117 : (tt.at 117).d.Is Try.prog 117 := ⟨_, _, _, rfl⟩
theorem inf117 : InfoOk Try.prog tt 117 := ⟨Try.t117, by kernel_rfl, by kernel_rfl, by kernel_rfl, by kernel_rfl⟩
theorem und118 : (tt.at 118).d.Is Try.prog 118 := ⟨_, _, _, rfl⟩
theorem inf118 : InfoOk Try.prog tt 118 := ⟨Try.t118, by kernel_rfl, by kernel_rfl, by kernel_rfl, by kernel_rfl⟩
theorem und119 : (tt.at 119).d.Is Try.prog 119 := ⟨Try.prog.fieldsOf 119, by kernel_rfl, by kernel_rfl⟩
theorem inf119 : InfoOk Try.prog tt 119 := ⟨Try.t119, by kernel_rfl, by kernel_rfl, by kernel_rfl, by kernel_rfl⟩
theorem und120 : (tt.at 120).d.Is Try.prog 120 := ⟨Try.prog.fieldsOf 120, by kernel_rfl, by kernel_rfl⟩
theorem inf120 : InfoOk Try.prog tt 120 := ⟨Try.t120, by kernel_rfl, by kernel_rfl, by kernel_rfl, by kernel_rfl⟩
theorem und121 : (tt.at 121).d.Is Try.prog 121 := (by kernel_rfl : Try.prog.underlying 121 = some (.pointer 89))
theorem inf121 : InfoOk Try.prog tt 121 := ⟨Try.t121, by kernel_rfl, by kernel_rfl, by kernel_rfl, by kernel_rfl⟩
theorem und122 : (tt.at 122).d.Is Try.prog 122 := ⟨_, _, _, rfl⟩
theorem inf122 : InfoOk Try.prog tt 122 := ⟨Try.t122, by kernel_rfl, by kernel_rfl, by kernel_rfl, by kernel_rfl⟩
theorem und123 : (tt.at 123).d.Is Try.prog 123 := (by kernel_rfl : Try.prog.underlying 123 = some (.pointer 2))
theorem inf123 : InfoOk Try.prog tt 123 := ⟨Try.t123, by kernel_rfl, by kernel_rfl, by kernel_rfl, by kernel_rfl⟩
theorem und124 : (tt.at 124).d.Is Try.prog 124 := ⟨_, _, _, rfl⟩
theorem inf124 : InfoOk Try.prog tt 124 := ⟨Try.t124, by kernel_rfl, by kernel_rfl, by kernel_rfl, by kernel_rfl⟩
theorem und125 : (tt.at 125).d.Is Try.prog 125 := (by kernel_rfl : Try.prog.underlying 125 = some (.slice 21))
theorem inf125 : InfoOk Try.prog tt 125 := ⟨Try.t125, by kernel_rfl, by kernel_rfl, by kernel_rfl, by kernel_rfl⟩
theorem und126 : (tt.at 126).d.Is Try.prog 126 := ⟨_, _, _, rfl⟩
theorem inf126 : InfoOk Try.prog tt 126 := ⟨Try.t126, by kernel_rfl, by kernel_rfl, by kernel_rfl, by kernel_rfl⟩
theorem und127 : (tt.at 127).d.Is Try.prog 127 := ⟨_, _, _, rfl⟩
theorem inf127 : InfoOk Try.prog tt 127 := ⟨Try.t127, by kernel_rfl, by kernel_rfl, by kernel_rfl, by kernel_rfl⟩
theorem und128 : (tt.at 128).d.Is Try.prog 128 := ⟨_, _, _, rfl⟩
theorem inf128 : InfoOk Try.prog tt 128 := ⟨Try.t128, by kernel_rfl, by kernel_rfl, by kernel_rfl, by kernel_rfl⟩
theorem und129 : (tt.at 129).d.Is Try.prog 129 := ⟨_, _, _, rfl⟩
theorem inf129 : InfoOk Try.prog tt 129 := ⟨Try.t129, by kernel_rfl, by kernel_rfl, by kernel_rfl, by kernel_rfl⟩
theorem und130 : (tt.at 130).d.Is Try.prog 130 := ⟨_, _, _, rfl⟩
theorem inf130 : InfoOk Try.prog tt 130 := ⟨Try.t130, by kernel_rfl, by kernel_rfl, by kernel_rfl, by kernel_rfl⟩
theorem und131 : (tt.at 131).d.Is Try.prog 131 := ⟨_, _, _, rfl⟩
theorem inf131 : InfoOk Try.prog tt 131 := ⟨Try.t131, by kernel_rfl, by kernel_rfl, by kernel_rfl, by kernel_rfl⟩
theorem und132 : (tt.at 132).d.Is Try.prog 132 := ⟨_, _, _, rfl⟩
theorem inf132 : InfoOk Try.prog tt 132 := ⟨Try.t132, by kernel_rfl, by kernel_rfl, by kernel_rfl, by kernel_rfl⟩
theorem und133 : (tt.at 133).d.Is Try.prog 133 := ⟨_, _, _, rfl⟩
theorem inf133 : InfoOk Try.prog tt 133 := ⟨Try.t133, by kernel_rfl, by kernel_rfl, by kernel_rfl, by kernel_rfl⟩
theorem und134 : (tt.at 134).d.Is Try.prog 134 := ⟨_, _, _, rfl⟩
theorem inf134 : InfoOk Try.prog tt 134 := ⟨Try.t134, by kernel_rfl, by kernel_rfl, by kernel_rfl, by kernel_rfl⟩
theorem und135 : (tt.at 135).d.Is Try.prog 135 := ⟨Try.prog.fieldsOf 135, by kernel_rfl, by kernel_rfl⟩
theorem inf135 : InfoOk Try.prog tt 135 := ⟨Try.t135, by kernel_rfl, by kernel_rfl, by kernel_rfl, by kernel_rfl⟩
theorem und136 : (tt.at 136).d.Is Try.prog 136 := ⟨Try.prog.fieldsOf 136, by kernel_rfl, by kernel_rfl⟩
theorem inf136 : InfoOk Try.prog tt 136 := ⟨Try.t136, by kernel_rfl, by kernel_rfl, by kernel_rfl, by kernel_rfl⟩
theorem und137 : (tt.at 137).d.Is Try.prog 137 := (by kernel_rfl : Try.prog.underlying 137 = some (.array 0 16))
theorem inf137 : InfoOk Try.prog tt 137 := ⟨Try.t137, by kernel_rfl, by kernel_rfl, by kernel_rfl, by kernel_rfl⟩
theorem und138 : (tt.at 138).d.Is Try.prog 138 := ⟨Try.prog.fieldsOf 138, by kernel_rfl, by kernel_rfl⟩
theorem inf138 : InfoOk Try.prog tt 138 := ⟨Try.t138, by kernel_rfl, by kernel_rfl, by kernel_rfl, by kernel_rfl⟩
theorem und139 : (tt.at 139).d.Is Try.prog 139 := ⟨Try.prog.fieldsOf 139, by kernel_rfl, by kernel_rfl⟩
theorem inf139 : InfoOk Try.prog tt 139 := ⟨Try.t139, by kernel_rfl, by kernel_rfl, by kernel_rfl, by kernel_rfl⟩
theorem und140 : (tt.at 140).d.Is Try.prog 140 := ⟨_, _, _, rfl⟩
theorem inf140 : InfoOk Try.prog tt 140 := ⟨Try.t140, by kernel_rfl, by kernel_rfl, by kernel_rfl, by kernel_rfl⟩
theorem und141 : (tt.at 141).d.Is Try.prog 141 := (by kernel_rfl : Try.prog.underlying 141 = some (.int .u32))
theorem inf141 : InfoOk Try.prog tt 141 := ⟨Try.t141, by kernel_rfl, by kernel_rfl, by kernel_rfl, by kernel_rfl⟩
theorem und142 : (tt.at 142).d.Is Try.prog 142 := (by kernel_rfl : Try.prog.underlying 142 = some (.int .u8))
theorem inf142 : InfoOk Try.prog tt 142 := ⟨Try.t142, by kernel_rfl, by kernel_rfl, by kernel_rfl, by kernel_rfl⟩
theorem und143 : (tt.at 143).d.Is Try.prog 143 := (by kernel_rfl : Try.prog.underlying 143 = some (.int .u8))
theorem inf143 : InfoOk Try.prog tt 143 := ⟨Try.t143, by kernel_rfl, by kernel_rfl, by kernel_rfl, by kernel_rfl⟩
theorem und144 : (tt.at 144).d.Is Try.prog 144 := ⟨_, _, _, rfl⟩
theorem inf144 : InfoOk Try.prog tt 144 := ⟨Try.t144, by kernel_rfl, by kernel_rfl, by kernel_rfl, by kernel_rfl⟩
theorem und145 : (tt.at 145).d.Is Try.prog 145 := (by kernel_rfl : Try.prog.underlying 145 = some (.pointer 5))
theorem inf145 : InfoOk Try.prog tt 145 := ⟨Try.t145, by kernel_rfl, by kernel_rfl, by kernel_rfl, by kernel_rfl⟩
theorem und146 : (tt.at 146).d.Is Try.prog 146 := (by kernel_rfl : Try.prog.underlying 146 = some (.int .i32))
theorem inf146 : InfoOk Try.prog tt 146 := ⟨Try.t146, by kernel_rfl, by kernel_rfl, by kernel_rfl, by kernel_rfl⟩
theorem und147 : (tt.at 147).d.Is Try.prog 147 := (by kernel_rfl : Try.prog.underlying 147 = some (.int .i32))
theorem inf147 : InfoOk Try.prog tt 147 := ⟨Try.t147, by kernel_rfl, by kernel_rfl, by kernel_rfl, by kernel_rfl⟩
theorem und148 : (tt.at 148).d.Is Try.prog 148 := ⟨Try.prog.fieldsOf 148, by kernel_rfl, by kernel_rfl⟩
theorem inf148 : InfoOk Try.prog tt 148 := ⟨Try.t148, by kernel_rfl, by kernel_rfl, by kernel_rfl, by kernel_rfl⟩
theorem und149 : (tt.at 149).d.Is Try.prog 149 := ⟨Try.prog.fieldsOf 149, by kernel_rfl, by kernel_rfl⟩
theorem inf149 : InfoOk Try.prog tt 149 := ⟨Try.t149, by kernel_rfl, by kernel_rfl, by kernel_rfl, by kernel_rfl⟩
theorem und150 : (tt.at 150).d.Is Try.prog 150 := ⟨_, _, _, rfl⟩
theorem inf150 : InfoOk Try.prog tt 150 := ⟨Try.t150, by kernel_rfl, by kernel_rfl, by kernel_rfl, by kernel_rfl⟩
theorem TTund : ∀ t, (tt.at t).d.Is Try.prog t := fun t => match t with
  | 0 => trivial
  | 1 => und1
  | 2 => und2
  | 3 => und3
  | 4 => und4
  | 5 => und5
  | 6 => und6
  | 7 => und7
  | 8 => und8
  | 9 => und9
  | 10 => und10
  | 11 => und11
  | 12 => und12
  | 13 => und13
  | 14 => und14
  | 15 => und15
  | 16 => und16
  | 17 => und17
  | 18 => und18
  | 19 => und19
  | 20 => und20
  | 21 => und21
  | 22 => und22
  | 23 => und23
  | 24 => und24
  | 25 => und25
  | 26 => und26
  | 27 => und27
  | 28 => und28
  | 29 => trivial
  | 30 => und30
  | 31 => und31
  | 32 => und32
  | 33 => und33
  | 34 => und34
  | 35 => und35
  | 36 => und36
  | 37 => und37
  | 38 => und38
  | 39 => und39
  | 40 => und40
  | 41 => und41
  | 42 => und42
  | 43 => und43
  | 44 => und44
  | 45 => und45
  | 46 => und46
  | 47 => und47
  | 48 => und48
  | 49 => und49
  | 50 => und50
  | 51 => und51
  | 52 => und52
  | 53 => und53
  | 54 => und54
  | 55 => trivial
  | 56 => und56
  | 57 => und57
  | 58 => und58
  | 59 => trivial
  | 60 => und60
  | 61 => trivial
  | 62 => und62
  | 63 => trivial
  | 64 => und64
  | 65 => trivial
  | 66 => und66
  | 67 => und67
  | 68 => und68
  | 69 => und69
  | 70 => und70
  | 71 => und71
  | 72 => und72
  | 73 => und73
  | 74 => und74
  | 75 => und75
  | 76 => und76
  | 77 => und77
  | 78 => und78
  | 79 => und79
  | 80 => und80
  | 81 => und81
  | 82 => und82
  | 83 => und83
  | 84 => und84
  | 85 => und85
  | 86 => und86
  | 87 => und87
  | 88 => und88
  | 89 => und89
  | 90 => und90
  | 91 => und91
  | 92 => und92
  | 93 => und93
  | 94 => und94
  | 95 => und95
  | 96 => und96
  | 97 => und97
  | 98 => und98
  | 99 => und99
  | 100 => und100
  | 101 => und101
  | 102 => und102
  | 103 => und103
  | 104 => und104
  | 105 => und105
  | 106 => und106
  | 107 => und107
  | 108 => und108
  | 109 => und109
  | 110 => und110
  | 111 => und111
  | 112 => und112
  | 113 => und113
  | 114 => und114
  | 115 => und115
  | 116 => trivial
  | 117 => und117
  | 118 => und118
  | 119 => und119
  | 120 => und120
  | 121 => und121
  | 122 => und122
  | 123 => und123
  | 124 => und124
  | 125 => und125
  | 126 => und126
  | 127 => und127
  | 128 => und128
  | 129 => und129
  | 130 => und130
  | 131 => und131
  | 132 => und132
  | 133 => und133
  | 134 => und134
  | 135 => und135
  | 136 => und136
  | 137 => und137
  | 138 => und138
  | 139 => und139
  | 140 => und140
  | 141 => und141
  | 142 => und142
  | 143 => und143
  | 144 => und144
  | 145 => und145
  | 146 => und146
  | 147 => und147
  | 148 => und148
  | 149 => und149
  | 150 => und150
  | 151 => trivial
  | k + 152 => und_past ttLen (Nat.le_add_left _ _)
theorem TTinf : ∀ t, tt.ok t = true → InfoOk Try.prog tt t := fun t => match t with
  | 0 => fun h => nomatch h
  | 1 => fun h => inf1
  | 2 => fun h => inf2
  | 3 => fun h => inf3
  | 4 => fun h => inf4
  | 5 => fun h => inf5
  | 6 => fun h => inf6
  | 7 => fun h => inf7
  | 8 => fun h => inf8
  | 9 => fun h => inf9
  | 10 => fun h => inf10
  | 11 => fun h => inf11
  | 12 => fun h => inf12
  | 13 => fun h => inf13
  | 14 => fun h => inf14
  | 15 => fun h => inf15
  | 16 => fun h => inf16
  | 17 => fun h => inf17
  | 18 => fun h => inf18
  | 19 => fun h => inf19
  | 20 => fun h => inf20
  | 21 => fun h => inf21
  | 22 => fun h => inf22
  | 23 => fun h => inf23
  | 24 => fun h => inf24
  | 25 => fun h => inf25
  | 26 => fun h => inf26
  | 27 => fun h => inf27
  | 28 => fun h => inf28
  | 29 => fun h => nomatch h
  | 30 => fun h => inf30
  | 31 => fun h => inf31
  | 32 => fun h => inf32
  | 33 => fun h => inf33
  | 34 => fun h => inf34
  | 35 => fun h => inf35
  | 36 => fun h => inf36
  | 37 => fun h => inf37
  | 38 => fun h => inf38
  | 39 => fun h => inf39
  | 40 => fun h => inf40
  | 41 => fun h => inf41
  | 42 => fun h => inf42
  | 43 => fun h => inf43
  | 44 => fun h => inf44
  | 45 => fun h => inf45
  | 46 => fun h => inf46
  | 47 => fun h => inf47
  | 48 => fun h => inf48
  | 49 => fun h => inf49
  | 50 => fun h => inf50
  | 51 => fun h => inf51
  | 52 => fun h => inf52
  | 53 => fun h => inf53
  | 54 => fun h => inf54
  | 55 => fun h => nomatch h
  | 56 => fun h => inf56
  | 57 => fun h => inf57
  | 58 => fun h => inf58
  | 59 => fun h => nomatch h
  | 60 => fun h => inf60
  | 61 => fun h => nomatch h
  | 62 => fun h => inf62
  | 63 => fun h => nomatch h
  | 64 => fun h => inf64
  | 65 => fun h => nomatch h
  | 66 => fun h => inf66
  | 67 => fun h => inf67
  | 68 => fun h => inf68
  | 69 => fun h => inf69
  | 70 => fun h => inf70
  | 71 => fun h => inf71
  | 72 => fun h => inf72
  | 73 => fun h => inf73
  | 74 => fun h => inf74
  | 75 => fun h => inf75
  | 76 => fun h => inf76
  | 77 => fun h => inf77
  | 78 => fun h => inf78
  | 79 => fun h => inf79
  | 80 => fun h => inf80
  | 81 => fun h => inf81
  | 82 => fun h => inf82
  | 83 => fun h => inf83
  | 84 => fun h => inf84
  | 85 => fun h => inf85
  | 86 => fun h => inf86
  | 87 => fun h => inf87
  | 88 => fun h => inf88
  | 89 => fun h => inf89
  | 90 => fun h => inf90
  | 91 => fun h => inf91
  | 92 => fun h => inf92
  | 93 => fun h => inf93
  | 94 => fun h => inf94
  | 95 => fun h => inf95
  | 96 => fun h => inf96
  | 97 => fun h => inf97
  | 98 => fun h => inf98
  | 99 => fun h => inf99
  | 100 => fun h => inf100
  | 101 => fun h => inf101
  | 102 => fun h => inf102
  | 103 => fun h => inf103
  | 104 => fun h => inf104
  | 105 => fun h => inf105
  | 106 => fun h => inf106
  | 107 => fun h => inf107
  | 108 => fun h => inf108
  | 109 => fun h => inf109
  | 110 => fun h => inf110
  | 111 => fun h => inf111
  | 112 => fun h => inf112
  | 113 => fun h => inf113
  | 114 => fun h => inf114
  | 115 => fun h => inf115
  | 116 => fun h => nomatch h
  | 117 => fun h => inf117
  | 118 => fun h => inf118
  | 119 => fun h => inf119
  | 120 => fun h => inf120
  | 121 => fun h => inf121
  | 122 => fun h => inf122
  | 123 => fun h => inf123
  | 124 => fun h => inf124
  | 125 => fun h => inf125
  | 126 => fun h => inf126
  | 127 => fun h => inf127
  | 128 => fun h => inf128
  | 129 => fun h => inf129
  | 130 => fun h => inf130
  | 131 => fun h => inf131
  | 132 => fun h => inf132
  | 133 => fun h => inf133
  | 134 => fun h => inf134
  | 135 => fun h => inf135
  | 136 => fun h => inf136
  | 137 => fun h => inf137
  | 138 => fun h => inf138
  | 139 => fun h => inf139
  | 140 => fun h => inf140
  | 141 => fun h => inf141
  | 142 => fun h => inf142
  | 143 => fun h => inf143
  | 144 => fun h => inf144
  | 145 => fun h => inf145
  | 146 => fun h => inf146
  | 147 => fun h => inf147
  | 148 => fun h => inf148
  | 149 => fun h => inf149
  | 150 => fun h => inf150
  | 151 => fun h => nomatch h
  | k + 152 => fun h => (ok_past ttLen (Nat.le_add_left _ _) h).elim
theorem eqf28 : EqFlat Try.prog tt 28 := .of (by kernel_rfl) (by kernel_rfl) (by kernel_rfl) (by kernel_rfl)
theorem eqf45 : EqFlat Try.prog tt 45 := .of (by kernel_rfl) (by kernel_rfl) (by kernel_rfl) (by kernel_rfl)
theorem eqf47 : EqFlat Try.prog tt 47 := .of (by kernel_rfl) (by kernel_rfl) (by kernel_rfl) (by kernel_rfl)
theorem eqf81 : EqFlat Try.prog tt 81 := .of (by kernel_rfl) (by kernel_rfl) (by kernel_rfl) (by kernel_rfl)
theorem TTeq : ∀ t, (tt.at t).eq = true → EqFlat Try.prog tt t := fun t => match t with
  | 0 => fun h => nomatch h
  | 1 => fun h => nomatch h
  | 2 => fun h => nomatch h
  | 3 => fun h => nomatch h
  | 4 => fun h => nomatch h
  | 5 => fun h => nomatch h
  | 6 => fun h => nomatch h
  | 7 => fun h => nomatch h
  | 8 => fun h => nomatch h
  | 9 => fun h => nomatch h
  | 10 => fun h => nomatch h
  | 11 => fun h => nomatch h
  | 12 => fun h => nomatch h
  | 13 => fun h => nomatch h
  | 14 => fun h => nomatch h
  | 15 => fun h => nomatch h
  | 16 => fun h => nomatch h
  | 17 => fun h => nomatch h
  | 18 => fun h => nomatch h
  | 19 => fun h => nomatch h
  | 20 => fun h => nomatch h
  | 21 => fun h => nomatch h
  | 22 => fun h => nomatch h
  | 23 => fun h => nomatch h
  | 24 => fun h => nomatch h
  | 25 => fun h => nomatch h
  | 26 => fun h => nomatch h
  | 27 => fun h => nomatch h
  | 28 => fun h => eqf28
  | 29 => fun h => nomatch h
  | 30 => fun h => nomatch h
  | 31 => fun h => nomatch h
  | 32 => fun h => nomatch h
  | 33 => fun h => nomatch h
  | 34 => fun h => nomatch h
  | 35 => fun h => nomatch h
  | 36 => fun h => nomatch h
  | 37 => fun h => nomatch h
  | 38 => fun h => nomatch h
  | 39 => fun h => nomatch h
  | 40 => fun h => nomatch h
  | 41 => fun h => nomatch h
  | 42 => fun h => nomatch h
  | 43 => fun h => nomatch h
  | 44 => fun h => nomatch h
  | 45 => fun h => eqf45
  | 46 => fun h => nomatch h
  | 47 => fun h => eqf47
  | 48 => fun h => nomatch h
  | 49 => fun h => nomatch h
  | 50 => fun h => nomatch h
  | 51 => fun h => nomatch h
  | 52 => fun h => nomatch h
  | 53 => fun h => nomatch h
  | 54 => fun h => nomatch h
  | 55 => fun h => nomatch h
  | 56 => fun h => nomatch h
  | 57 => fun h => nomatch h
  | 58 => fun h => nomatch h
  | 59 => fun h => nomatch h
  | 60 => fun h => nomatch h
  | 61 => fun h => nomatch h
  | 62 => fun h => nomatch h
  | 63 => fun h => nomatch h
  | 64 => fun h => nomatch h
  | 65 => fun h => nomatch h
  | 66 => fun h => nomatch h
  | 67 => fun h => nomatch h
  | 68 => fun h => nomatch h
  | 69 => fun h => nomatch h
  | 70 => fun h => nomatch h
  | 71 => fun h => nomatch h
  | 72 => fun h => nomatch h
  | 73 => fun h => nomatch h
  | 74 => fun h => nomatch h
  | 75 => fun h => nomatch h
  | 76 => fun h => nomatch h
  | 77 => fun h => nomatch h
  | 78 => fun h => nomatch h
  | 79 => fun h => nomatch h
  | 80 => fun h => nomatch h
  | 81 => fun h => eqf81
  | 82 => fun h => nomatch h
  | 83 => fun h => nomatch h
  | 84 => fun h => nomatch h
  | 85 => fun h => nomatch h
  | 86 => fun h => nomatch h
  | 87 => fun h => nomatch h
  | 88 => fun h => nomatch h
  | 89 => fun h => nomatch h
  | 90 => fun h => nomatch h
  | 91 => fun h => nomatch h
  | 92 => fun h => nomatch h
  | 93 => fun h => nomatch h
  | 94 => fun h => nomatch h
  | 95 => fun h => nomatch h
  | 96 => fun h => nomatch h
  | 97 => fun h => nomatch h
  | 98 => fun h => nomatch h
  | 99 => fun h => nomatch h
  | 100 => fun h => nomatch h
  | 101 => fun h => nomatch h
  | 102 => fun h => nomatch h
  | 103 => fun h => nomatch h
  | 104 => fun h => nomatch h
  | 105 => fun h => nomatch h
  | 106 => fun h => nomatch h
  | 107 => fun h => nomatch h
  | 108 => fun h => nomatch h
  | 109 => fun h => nomatch h
  | 110 => fun h => nomatch h
  | 111 => fun h => nomatch h
  | 112 => fun h => nomatch h
  | 113 => fun h => nomatch h
  | 114 => fun h => nomatch h
  | 115 => fun h => nomatch h
  | 116 => fun h => nomatch h
  | 117 => fun h => nomatch h
  | 118 => fun h => nomatch h
  | 119 => fun h => nomatch h
  | 120 => fun h => nomatch h
  | 121 => fun h => nomatch h
  | 122 => fun h => nomatch h
  | 123 => fun h => nomatch h
  | 124 => fun h => nomatch h
  | 125 => fun h => nomatch h
  | 126 => fun h => nomatch h
  | 127 => fun h => nomatch h
  | 128 => fun h => nomatch h
  | 129 => fun h => nomatch h
  | 130 => fun h => nomatch h
  | 131 => fun h => nomatch h
  | 132 => fun h => nomatch h
  | 133 => fun h => nomatch h
  | 134 => fun h => nomatch h
  | 135 => fun h => nomatch h
  | 136 => fun h => nomatch h
  | 137 => fun h => nomatch h
  | 138 => fun h => nomatch h
  | 139 => fun h => nomatch h
  | 140 => fun h => nomatch h
  | 141 => fun h => nomatch h
  | 142 => fun h => nomatch h
  | 143 => fun h => nomatch h
  | 144 => fun h => nomatch h
  | 145 => fun h => nomatch h
  | 146 => fun h => nomatch h
  | 147 => fun h => nomatch h
  | 148 => fun h => nomatch h
  | 149 => fun h => nomatch h
  | 150 => fun h => nomatch h
  | 151 => fun h => nomatch h
  | k + 152 => fun h => (eq_past ttLen (Nat.le_add_left _ _) h).elim
theorem TTeqs : ∀ t, ∀ (w : World) (h : Heap) (c : Cfg) (cs ds : List V) (xs ys : Array Value) (b : Bool), eqOk (tt.at t) cs ds = true → RepL w h c cs xs.toList → RepL w h c ds ys.toList →
    eqCells cs ds = some b → Try.prog.eqGuardType Try.prog.depth t = false ∧ (Op.equalIn 10000 t (.agg xs) (.agg ys)).run Try.prog w = .ok b w :=
  fun t _ _ _ _ _ _ _ _ hk rx ry hb => eqs_flat (TTeq t (eqOk_eq hk)) hk rx ry hb
theorem TT : TOK Try.prog tt := ⟨TTund, fun t h => (TTinf t h).spec, TTeqs⟩
theorem mixed : Try.prog.follows .mixedOrders = true := by kernel_rfl
end Go.Proofs.Ytcocpfgemdkkfaa
