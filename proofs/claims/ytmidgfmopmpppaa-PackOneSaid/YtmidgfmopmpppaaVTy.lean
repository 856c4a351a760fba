/- Facts on the types, printed by genty.py, a program of this claim. -/
import Derived.Test.YtmidgfmopmpppaaVAbsJ
import Derived.Test.YtmidgfmopmpppaaProg
import Derived.KernelRfl
namespace Go.Proofs.Ytmidgfmopmpppaa
set_option maxRecDepth 100000
theorem mixed : Try.prog.follows .mixedOrders = true := by kernel_rfl
@[simp] theorem und0 : Try.prog.underlying 0 = some (Go.TypeDesc.tuple #[]) := by kernel_rfl
@[simp] theorem ty0 : tyOK Try.prog 0 = true := by kernel_rfl
@[simp] theorem st0 : isStruct Try.prog 0 = false := by kernel_rfl
@[simp] theorem ce0 : Try.prog.cellsOf 0 = 1 := by kernel_rfl
@[simp] theorem by0 : Try.prog.bytesOf 0 = 0 := by kernel_rfl
@[simp] theorem ze0 : (Try.prog.info? 0).bind (·.zero) = some (Go.Value.tuple #[]) := by kernel_rfl
@[simp] theorem und1 : Try.prog.underlying 1 = some (Go.TypeDesc.func #[] #[] false) := by kernel_rfl
@[simp] theorem ty1 : tyOK Try.prog 1 = true := by kernel_rfl
@[simp] theorem st1 : isStruct Try.prog 1 = false := by kernel_rfl
@[simp] theorem ce1 : Try.prog.cellsOf 1 = 1 := by kernel_rfl
@[simp] theorem by1 : Try.prog.bytesOf 1 = 8 := by kernel_rfl
@[simp] theorem ze1 : (Try.prog.info? 1).bind (·.zero) = some Go.Value.nilFunc := by kernel_rfl
@[simp] theorem und2 : Try.prog.underlying 2 = some (Go.TypeDesc.int Go.IntKind.i64) := by kernel_rfl
@[simp] theorem ty2 : tyOK Try.prog 2 = true := by kernel_rfl
@[simp] theorem st2 : isStruct Try.prog 2 = false := by kernel_rfl
@[simp] theorem ce2 : Try.prog.cellsOf 2 = 1 := by kernel_rfl
@[simp] theorem by2 : Try.prog.bytesOf 2 = 8 := by kernel_rfl
@[simp] theorem ze2 : (Try.prog.info? 2).bind (·.zero) = some (Go.Value.int Go.IntKind.i64 0) := by kernel_rfl
@[simp] theorem und3 : Try.prog.underlying 3 = some (Go.TypeDesc.int Go.IntKind.i64) := by kernel_rfl
@[simp] theorem ty3 : tyOK Try.prog 3 = true := by kernel_rfl
@[simp] theorem st3 : isStruct Try.prog 3 = false := by kernel_rfl
@[simp] theorem ce3 : Try.prog.cellsOf 3 = 1 := by kernel_rfl
@[simp] theorem by3 : Try.prog.bytesOf 3 = 8 := by kernel_rfl
@[simp] theorem ze3 : (Try.prog.info? 3).bind (·.zero) = some (Go.Value.int Go.IntKind.i64 0) := by kernel_rfl
@[simp] theorem und4 : Try.prog.underlying 4 = some Go.TypeDesc.bool := by kernel_rfl
@[simp] theorem ty4 : tyOK Try.prog 4 = true := by kernel_rfl
@[simp] theorem st4 : isStruct Try.prog 4 = false := by kernel_rfl
@[simp] theorem ce4 : Try.prog.cellsOf 4 = 1 := by kernel_rfl
@[simp] theorem by4 : Try.prog.bytesOf 4 = 1 := by kernel_rfl
@[simp] theorem ze4 : (Try.prog.info? 4).bind (·.zero) = some (Go.Value.bool false) := by kernel_rfl
@[simp] theorem und5 : Try.prog.underlying 5 = some (Go.TypeDesc.int Go.IntKind.u8) := by kernel_rfl
@[simp] theorem ty5 : tyOK Try.prog 5 = true := by kernel_rfl
@[simp] theorem st5 : isStruct Try.prog 5 = false := by kernel_rfl
@[simp] theorem ce5 : Try.prog.cellsOf 5 = 1 := by kernel_rfl
@[simp] theorem by5 : Try.prog.bytesOf 5 = 1 := by kernel_rfl
@[simp] theorem ze5 : (Try.prog.info? 5).bind (·.zero) = some (Go.Value.int Go.IntKind.u8 0) := by kernel_rfl
@[simp] theorem und6 : Try.prog.underlying 6 = some (Go.TypeDesc.int Go.IntKind.u8) := by kernel_rfl
@[simp] theorem ty6 : tyOK Try.prog 6 = true := by kernel_rfl
@[simp] theorem st6 : isStruct Try.prog 6 = false := by kernel_rfl
@[simp] theorem ce6 : Try.prog.cellsOf 6 = 1 := by kernel_rfl
@[simp] theorem by6 : Try.prog.bytesOf 6 = 1 := by kernel_rfl
@[simp] theorem ze6 : (Try.prog.info? 6).bind (·.zero) = some (Go.Value.int Go.IntKind.u8 0) := by kernel_rfl
@[simp] theorem und7 : Try.prog.underlying 7 = some (Go.TypeDesc.struct #[{ name := "x", type := 2, offset := 0, embedded := false, tag := "", pkgPath := "runtime", byteOffset := 0 }, { name := "y", type := 3, offset := 1, embedded := false, tag := "", pkgPath := "runtime", byteOffset := 8 }, { name := "signed", type := 4, offset := 2, embedded := false, tag := "", pkgPath := "runtime", byteOffset := 16 }, { name := "code", type := 6, offset := 3, embedded := false, tag := "", pkgPath := "runtime", byteOffset := 17 }]) := by kernel_rfl
@[simp] theorem ty7 : tyOK Try.prog 7 = true := by kernel_rfl
@[simp] theorem st7 : isStruct Try.prog 7 = true := by kernel_rfl
@[simp] theorem ce7 : Try.prog.cellsOf 7 = 4 := by kernel_rfl
@[simp] theorem by7 : Try.prog.bytesOf 7 = 24 := by kernel_rfl
@[simp] theorem ze7 : (Try.prog.info? 7).bind (·.zero) = some (Go.Value.agg #[Go.Value.int Go.IntKind.i64 0, Go.Value.int Go.IntKind.i64 0, Go.Value.bool false, Go.Value.int Go.IntKind.u8 0]) := by kernel_rfl
@[simp] theorem und8 : Try.prog.underlying 8 = some (Go.TypeDesc.struct #[{ name := "x", type := 2, offset := 0, embedded := false, tag := "", pkgPath := "runtime", byteOffset := 0 }, { name := "y", type := 3, offset := 1, embedded := false, tag := "", pkgPath := "runtime", byteOffset := 8 }, { name := "signed", type := 4, offset := 2, embedded := false, tag := "", pkgPath := "runtime", byteOffset := 16 }, { name := "code", type := 6, offset := 3, embedded := false, tag := "", pkgPath := "runtime", byteOffset := 17 }]) := by kernel_rfl
@[simp] theorem ty8 : tyOK Try.prog 8 = true := by kernel_rfl
@[simp] theorem st8 : isStruct Try.prog 8 = true := by kernel_rfl
@[simp] theorem ce8 : Try.prog.cellsOf 8 = 4 := by kernel_rfl
@[simp] theorem by8 : Try.prog.bytesOf 8 = 24 := by kernel_rfl
@[simp] theorem ze8 : (Try.prog.info? 8).bind (·.zero) = some (Go.Value.agg #[Go.Value.int Go.IntKind.i64 0, Go.Value.int Go.IntKind.i64 0, Go.Value.bool false, Go.Value.int Go.IntKind.u8 0]) := by kernel_rfl
@[simp] theorem und9 : Try.prog.underlying 9 = some Go.TypeDesc.string := by kernel_rfl
@[simp] theorem ty9 : tyOK Try.prog 9 = true := by kernel_rfl
@[simp] theorem st9 : isStruct Try.prog 9 = false := by kernel_rfl
@[simp] theorem ce9 : Try.prog.cellsOf 9 = 1 := by kernel_rfl
@[simp] theorem by9 : Try.prog.bytesOf 9 = 16 := by kernel_rfl
@[simp] theorem ze9 : (Try.prog.info? 9).bind (·.zero) = some (Go.Value.string { data := #[] }) := by kernel_rfl
@[simp] theorem und10 : Try.prog.underlying 10 = some Go.TypeDesc.string := by kernel_rfl
@[simp] theorem ty10 : tyOK Try.prog 10 = true := by kernel_rfl
@[simp] theorem st10 : isStruct Try.prog 10 = false := by kernel_rfl
@[simp] theorem ce10 : Try.prog.cellsOf 10 = 1 := by kernel_rfl
@[simp] theorem by10 : Try.prog.bytesOf 10 = 16 := by kernel_rfl
@[simp] theorem ze10 : (Try.prog.info? 10).bind (·.zero) = some (Go.Value.string { data := #[] }) := by kernel_rfl
@[simp] theorem und11 : Try.prog.underlying 11 = some Go.TypeDesc.string := by kernel_rfl
@[simp] theorem ty11 : tyOK Try.prog 11 = true := by kernel_rfl
@[simp] theorem st11 : isStruct Try.prog 11 = false := by kernel_rfl
@[simp] theorem ce11 : Try.prog.cellsOf 11 = 1 := by kernel_rfl
@[simp] theorem by11 : Try.prog.bytesOf 11 = 16 := by kernel_rfl
@[simp] theorem ze11 : (Try.prog.info? 11).bind (·.zero) = some (Go.Value.string { data := #[] }) := by kernel_rfl
@[simp] theorem und12 : Try.prog.underlying 12 = some (Go.TypeDesc.int Go.IntKind.u64) := by kernel_rfl
@[simp] theorem ty12 : tyOK Try.prog 12 = true := by kernel_rfl
@[simp] theorem st12 : isStruct Try.prog 12 = false := by kernel_rfl
@[simp] theorem ce12 : Try.prog.cellsOf 12 = 1 := by kernel_rfl
@[simp] theorem by12 : Try.prog.bytesOf 12 = 8 := by kernel_rfl
@[simp] theorem ze12 : (Try.prog.info? 12).bind (·.zero) = some (Go.Value.int Go.IntKind.u64 0) := by kernel_rfl
@[simp] theorem und13 : Try.prog.underlying 13 = some (Go.TypeDesc.struct #[{ name := "msg", type := 9, offset := 0, embedded := false, tag := "", pkgPath := "runtime", byteOffset := 0 }, { name := "addr", type := 12, offset := 1, embedded := false, tag := "", pkgPath := "runtime", byteOffset := 16 }]) := by kernel_rfl
@[simp] theorem ty13 : tyOK Try.prog 13 = true := by kernel_rfl
@[simp] theorem st13 : isStruct Try.prog 13 = true := by kernel_rfl
@[simp] theorem ce13 : Try.prog.cellsOf 13 = 2 := by kernel_rfl
@[simp] theorem by13 : Try.prog.bytesOf 13 = 24 := by kernel_rfl
@[simp] theorem ze13 : (Try.prog.info? 13).bind (·.zero) = some (Go.Value.agg #[Go.Value.string { data := #[] }, Go.Value.int Go.IntKind.u64 0]) := by kernel_rfl
@[simp] theorem und14 : Try.prog.underlying 14 = some (Go.TypeDesc.struct #[{ name := "msg", type := 9, offset := 0, embedded := false, tag := "", pkgPath := "runtime", byteOffset := 0 }, { name := "addr", type := 12, offset := 1, embedded := false, tag := "", pkgPath := "runtime", byteOffset := 16 }]) := by kernel_rfl
@[simp] theorem ty14 : tyOK Try.prog 14 = true := by kernel_rfl
@[simp] theorem st14 : isStruct Try.prog 14 = true := by kernel_rfl
@[simp] theorem ce14 : Try.prog.cellsOf 14 = 2 := by kernel_rfl
@[simp] theorem by14 : Try.prog.bytesOf 14 = 24 := by kernel_rfl
@[simp] theorem ze14 : (Try.prog.info? 14).bind (·.zero) = some (Go.Value.agg #[Go.Value.string { data := #[] }, Go.Value.int Go.IntKind.u64 0]) := by kernel_rfl
@[simp] theorem und15 : Try.prog.underlying 15 = some (Go.TypeDesc.pointer 64) := by kernel_rfl
@[simp] theorem ty15 : tyOK Try.prog 15 = true := by kernel_rfl
@[simp] theorem st15 : isStruct Try.prog 15 = false := by kernel_rfl
@[simp] theorem ce15 : Try.prog.cellsOf 15 = 1 := by kernel_rfl
@[simp] theorem by15 : Try.prog.bytesOf 15 = 8 := by kernel_rfl
@[simp] theorem ze15 : (Try.prog.info? 15).bind (·.zero) = some (Go.Value.pointer none) := by kernel_rfl
@[simp] theorem und16 : Try.prog.underlying 16 = some (Go.TypeDesc.pointer 67) := by kernel_rfl
@[simp] theorem ty16 : tyOK Try.prog 16 = true := by kernel_rfl
@[simp] theorem st16 : isStruct Try.prog 16 = false := by kernel_rfl
@[simp] theorem ce16 : Try.prog.cellsOf 16 = 1 := by kernel_rfl
@[simp] theorem by16 : Try.prog.bytesOf 16 = 8 := by kernel_rfl
@[simp] theorem ze16 : (Try.prog.info? 16).bind (·.zero) = some (Go.Value.pointer none) := by kernel_rfl
@[simp] theorem und17 : Try.prog.underlying 17 = some (Go.TypeDesc.pointer 75) := by kernel_rfl
@[simp] theorem ty17 : tyOK Try.prog 17 = true := by kernel_rfl
@[simp] theorem st17 : isStruct Try.prog 17 = false := by kernel_rfl
@[simp] theorem ce17 : Try.prog.cellsOf 17 = 1 := by kernel_rfl
@[simp] theorem by17 : Try.prog.bytesOf 17 = 8 := by kernel_rfl
@[simp] theorem ze17 : (Try.prog.info? 17).bind (·.zero) = some (Go.Value.pointer none) := by kernel_rfl
@[simp] theorem und18 : Try.prog.underlying 18 = some (Go.TypeDesc.struct #[{ name := "typ", type := 17, offset := 0, embedded := false, tag := "", pkgPath := "internal/runtime/maps", byteOffset := 0 }]) := by kernel_rfl
@[simp] theorem ty18 : tyOK Try.prog 18 = true := by kernel_rfl
@[simp] theorem st18 : isStruct Try.prog 18 = true := by kernel_rfl
@[simp] theorem ce18 : Try.prog.cellsOf 18 = 1 := by kernel_rfl
@[simp] theorem by18 : Try.prog.bytesOf 18 = 8 := by kernel_rfl
@[simp] theorem ze18 : (Try.prog.info? 18).bind (·.zero) = some (Go.Value.agg #[Go.Value.pointer none]) := by kernel_rfl
@[simp] theorem und19 : Try.prog.underlying 19 = some (Go.TypeDesc.struct #[{ name := "typ", type := 17, offset := 0, embedded := false, tag := "", pkgPath := "internal/runtime/maps", byteOffset := 0 }]) := by kernel_rfl
@[simp] theorem ty19 : tyOK Try.prog 19 = true := by kernel_rfl
@[simp] theorem st19 : isStruct Try.prog 19 = true := by kernel_rfl
@[simp] theorem ce19 : Try.prog.cellsOf 19 = 1 := by kernel_rfl
@[simp] theorem by19 : Try.prog.bytesOf 19 = 8 := by kernel_rfl
@[simp] theorem ze19 : (Try.prog.info? 19).bind (·.zero) = some (Go.Value.agg #[Go.Value.pointer none]) := by kernel_rfl
@[simp] theorem und20 : Try.prog.underlying 20 = some (Go.TypeDesc.interface #[]) := by kernel_rfl
@[simp] theorem ty20 : tyOK Try.prog 20 = true := by kernel_rfl
@[simp] theorem st20 : isStruct Try.prog 20 = false := by kernel_rfl
@[simp] theorem ce20 : Try.prog.cellsOf 20 = 1 := by kernel_rfl
@[simp] theorem by20 : Try.prog.bytesOf 20 = 16 := by kernel_rfl
@[simp] theorem ze20 : (Try.prog.info? 20).bind (·.zero) = some Go.Value.nilIface := by kernel_rfl
@[simp] theorem und21 : Try.prog.underlying 21 = some (Go.TypeDesc.int Go.IntKind.i32) := by kernel_rfl
@[simp] theorem ty21 : tyOK Try.prog 21 = true := by kernel_rfl
@[simp] theorem st21 : isStruct Try.prog 21 = false := by kernel_rfl
@[simp] theorem ce21 : Try.prog.cellsOf 21 = 1 := by kernel_rfl
@[simp] theorem by21 : Try.prog.bytesOf 21 = 4 := by kernel_rfl
@[simp] theorem ze21 : (Try.prog.info? 21).bind (·.zero) = some (Go.Value.int Go.IntKind.i32 0) := by kernel_rfl
@[simp] theorem und22 : Try.prog.underlying 22 = some (Go.TypeDesc.func #[] #[4] false) := by kernel_rfl
@[simp] theorem ty22 : tyOK Try.prog 22 = true := by kernel_rfl
@[simp] theorem st22 : isStruct Try.prog 22 = false := by kernel_rfl
@[simp] theorem ce22 : Try.prog.cellsOf 22 = 1 := by kernel_rfl
@[simp] theorem by22 : Try.prog.bytesOf 22 = 8 := by kernel_rfl
@[simp] theorem ze22 : (Try.prog.info? 22).bind (·.zero) = some Go.Value.nilFunc := by kernel_rfl
@[simp] theorem und23 : Try.prog.underlying 23 = some (Go.TypeDesc.int Go.IntKind.u32) := by kernel_rfl
@[simp] theorem ty23 : tyOK Try.prog 23 = true := by kernel_rfl
@[simp] theorem st23 : isStruct Try.prog 23 = false := by kernel_rfl
@[simp] theorem ce23 : Try.prog.cellsOf 23 = 1 := by kernel_rfl
@[simp] theorem by23 : Try.prog.bytesOf 23 = 4 := by kernel_rfl
@[simp] theorem ze23 : (Try.prog.info? 23).bind (·.zero) = some (Go.Value.int Go.IntKind.u32 0) := by kernel_rfl
@[simp] theorem und24 : Try.prog.underlying 24 = some (Go.TypeDesc.func #[9] #[23] false) := by kernel_rfl
@[simp] theorem ty24 : tyOK Try.prog 24 = true := by kernel_rfl
@[simp] theorem st24 : isStruct Try.prog 24 = false := by kernel_rfl
@[simp] theorem ce24 : Try.prog.cellsOf 24 = 1 := by kernel_rfl
@[simp] theorem by24 : Try.prog.bytesOf 24 = 8 := by kernel_rfl
@[simp] theorem ze24 : (Try.prog.info? 24).bind (·.zero) = some Go.Value.nilFunc := by kernel_rfl
@[simp] theorem und25 : Try.prog.underlying 25 = some (Go.TypeDesc.func #[9] #[4] false) := by kernel_rfl
@[simp] theorem ty25 : tyOK Try.prog 25 = true := by kernel_rfl
@[simp] theorem st25 : isStruct Try.prog 25 = false := by kernel_rfl
@[simp] theorem ce25 : Try.prog.cellsOf 25 = 1 := by kernel_rfl
@[simp] theorem by25 : Try.prog.bytesOf 25 = 8 := by kernel_rfl
@[simp] theorem ze25 : (Try.prog.info? 25).bind (·.zero) = some Go.Value.nilFunc := by kernel_rfl
@[simp] theorem und26 : Try.prog.underlying 26 = some (Go.TypeDesc.func #[23, 23, 3] #[23] false) := by kernel_rfl
@[simp] theorem ty26 : tyOK Try.prog 26 = true := by kernel_rfl
@[simp] theorem st26 : isStruct Try.prog 26 = false := by kernel_rfl
@[simp] theorem ce26 : Try.prog.cellsOf 26 = 1 := by kernel_rfl
@[simp] theorem by26 : Try.prog.bytesOf 26 = 8 := by kernel_rfl
@[simp] theorem ze26 : (Try.prog.info? 26).bind (·.zero) = some Go.Value.nilFunc := by kernel_rfl
@[simp] theorem und27 : Try.prog.underlying 27 = some (Go.TypeDesc.func #[23, 23, 3] #[4] false) := by kernel_rfl
@[simp] theorem ty27 : tyOK Try.prog 27 = true := by kernel_rfl
@[simp] theorem st27 : isStruct Try.prog 27 = false := by kernel_rfl
@[simp] theorem ce27 : Try.prog.cellsOf 27 = 1 := by kernel_rfl
@[simp] theorem by27 : Try.prog.bytesOf 27 = 8 := by kernel_rfl
@[simp] theorem ze27 : (Try.prog.info? 27).bind (·.zero) = some Go.Value.nilFunc := by kernel_rfl
@[simp] theorem und28 : Try.prog.underlying 28 = some (Go.TypeDesc.func #[9, 9] #[4] false) := by kernel_rfl
@[simp] theorem ty28 : tyOK Try.prog 28 = true := by kernel_rfl
@[simp] theorem st28 : isStruct Try.prog 28 = false := by kernel_rfl
@[simp] theorem ce28 : Try.prog.cellsOf 28 = 1 := by kernel_rfl
@[simp] theorem by28 : Try.prog.bytesOf 28 = 8 := by kernel_rfl
@[simp] theorem ze28 : (Try.prog.info? 28).bind (·.zero) = some Go.Value.nilFunc := by kernel_rfl
@[simp] theorem und29 : Try.prog.underlying 29 = some (Go.TypeDesc.func #[23, 3, 3] #[4] false) := by kernel_rfl
@[simp] theorem ty29 : tyOK Try.prog 29 = true := by kernel_rfl
@[simp] theorem st29 : isStruct Try.prog 29 = false := by kernel_rfl
@[simp] theorem ce29 : Try.prog.cellsOf 29 = 1 := by kernel_rfl
@[simp] theorem by29 : Try.prog.bytesOf 29 = 8 := by kernel_rfl
@[simp] theorem ze29 : (Try.prog.info? 29).bind (·.zero) = some Go.Value.nilFunc := by kernel_rfl
@[simp] theorem und30 : Try.prog.underlying 30 = some (Go.TypeDesc.slice 5) := by kernel_rfl
@[simp] theorem ty30 : tyOK Try.prog 30 = true := by kernel_rfl
@[simp] theorem st30 : isStruct Try.prog 30 = false := by kernel_rfl
@[simp] theorem ce30 : Try.prog.cellsOf 30 = 1 := by kernel_rfl
@[simp] theorem by30 : Try.prog.bytesOf 30 = 24 := by kernel_rfl
@[simp] theorem ze30 : (Try.prog.info? 30).bind (·.zero) = some (Go.Value.slice none 0 0) := by kernel_rfl
@[simp] theorem und31 : Try.prog.underlying 31 = some (Go.TypeDesc.int Go.IntKind.u64) := by kernel_rfl
@[simp] theorem ty31 : tyOK Try.prog 31 = true := by kernel_rfl
@[simp] theorem st31 : isStruct Try.prog 31 = false := by kernel_rfl
@[simp] theorem ce31 : Try.prog.cellsOf 31 = 1 := by kernel_rfl
@[simp] theorem by31 : Try.prog.bytesOf 31 = 8 := by kernel_rfl
@[simp] theorem ze31 : (Try.prog.info? 31).bind (·.zero) = some (Go.Value.int Go.IntKind.u64 0) := by kernel_rfl
@[simp] theorem und32 : Try.prog.underlying 32 = some (Go.TypeDesc.func #[9, 3, 23] #[4] false) := by kernel_rfl
@[simp] theorem ty32 : tyOK Try.prog 32 = true := by kernel_rfl
@[simp] theorem st32 : isStruct Try.prog 32 = false := by kernel_rfl
@[simp] theorem ce32 : Try.prog.cellsOf 32 = 1 := by kernel_rfl
@[simp] theorem by32 : Try.prog.bytesOf 32 = 8 := by kernel_rfl
@[simp] theorem ze32 : (Try.prog.info? 32).bind (·.zero) = some Go.Value.nilFunc := by kernel_rfl
@[simp] theorem und33 : Try.prog.underlying 33 = some (Go.TypeDesc.func #[23, 23, 23, 3, 3] #[4] false) := by kernel_rfl
@[simp] theorem ty33 : tyOK Try.prog 33 = true := by kernel_rfl
@[simp] theorem st33 : isStruct Try.prog 33 = false := by kernel_rfl
@[simp] theorem ce33 : Try.prog.cellsOf 33 = 1 := by kernel_rfl
@[simp] theorem by33 : Try.prog.bytesOf 33 = 8 := by kernel_rfl
@[simp] theorem ze33 : (Try.prog.info? 33).bind (·.zero) = some Go.Value.nilFunc := by kernel_rfl
@[simp] theorem und34 : Try.prog.underlying 34 = some (Go.TypeDesc.int Go.IntKind.u64) := by kernel_rfl
@[simp] theorem ty34 : tyOK Try.prog 34 = true := by kernel_rfl
@[simp] theorem st34 : isStruct Try.prog 34 = false := by kernel_rfl
@[simp] theorem ce34 : Try.prog.cellsOf 34 = 1 := by kernel_rfl
@[simp] theorem by34 : Try.prog.bytesOf 34 = 8 := by kernel_rfl
@[simp] theorem ze34 : (Try.prog.info? 34).bind (·.zero) = some (Go.Value.int Go.IntKind.u64 0) := by kernel_rfl
@[simp] theorem und35 : Try.prog.underlying 35 = some (Go.TypeDesc.func #[34] #[9] false) := by kernel_rfl
@[simp] theorem ty35 : tyOK Try.prog 35 = true := by kernel_rfl
@[simp] theorem st35 : isStruct Try.prog 35 = false := by kernel_rfl
@[simp] theorem ce35 : Try.prog.cellsOf 35 = 1 := by kernel_rfl
@[simp] theorem by35 : Try.prog.bytesOf 35 = 8 := by kernel_rfl
@[simp] theorem ze35 : (Try.prog.info? 35).bind (·.zero) = some Go.Value.nilFunc := by kernel_rfl
@[simp] theorem und36 : Try.prog.underlying 36 = some (Go.TypeDesc.func #[2] #[9] false) := by kernel_rfl
@[simp] theorem ty36 : tyOK Try.prog 36 = true := by kernel_rfl
@[simp] theorem st36 : isStruct Try.prog 36 = false := by kernel_rfl
@[simp] theorem ce36 : Try.prog.cellsOf 36 = 1 := by kernel_rfl
@[simp] theorem by36 : Try.prog.bytesOf 36 = 8 := by kernel_rfl
@[simp] theorem ze36 : (Try.prog.info? 36).bind (·.zero) = some Go.Value.nilFunc := by kernel_rfl
@[simp] theorem und37 : Try.prog.underlying 37 = some (Go.TypeDesc.func #[34, 34, 2] #[4] false) := by kernel_rfl
@[simp] theorem ty37 : tyOK Try.prog 37 = true := by kernel_rfl
@[simp] theorem st37 : isStruct Try.prog 37 = false := by kernel_rfl
@[simp] theorem ce37 : Try.prog.cellsOf 37 = 1 := by kernel_rfl
@[simp] theorem by37 : Try.prog.bytesOf 37 = 8 := by kernel_rfl
@[simp] theorem ze37 : (Try.prog.info? 37).bind (·.zero) = some Go.Value.nilFunc := by kernel_rfl
@[simp] theorem und38 : Try.prog.underlying 38 = some (Go.TypeDesc.func #[9] #[9] false) := by kernel_rfl
@[simp] theorem ty38 : tyOK Try.prog 38 = true := by kernel_rfl
@[simp] theorem st38 : isStruct Try.prog 38 = false := by kernel_rfl
@[simp] theorem ce38 : Try.prog.cellsOf 38 = 1 := by kernel_rfl
@[simp] theorem by38 : Try.prog.bytesOf 38 = 8 := by kernel_rfl
@[simp] theorem ze38 : (Try.prog.info? 38).bind (·.zero) = some Go.Value.nilFunc := by kernel_rfl
@[simp] theorem und39 : Try.prog.underlying 39 = some (Go.TypeDesc.func #[4] #[9] false) := by kernel_rfl
@[simp] theorem ty39 : tyOK Try.prog 39 = true := by kernel_rfl
@[simp] theorem st39 : isStruct Try.prog 39 = false := by kernel_rfl
@[simp] theorem ce39 : Try.prog.cellsOf 39 = 1 := by kernel_rfl
@[simp] theorem by39 : Try.prog.bytesOf 39 = 8 := by kernel_rfl
@[simp] theorem ze39 : (Try.prog.info? 39).bind (·.zero) = some Go.Value.nilFunc := by kernel_rfl
@[simp] theorem und40 : Try.prog.underlying 40 = some (Go.TypeDesc.func #[34, 2, 9] #[4] false) := by kernel_rfl
@[simp] theorem ty40 : tyOK Try.prog 40 = true := by kernel_rfl
@[simp] theorem st40 : isStruct Try.prog 40 = false := by kernel_rfl
@[simp] theorem ce40 : Try.prog.cellsOf 40 = 1 := by kernel_rfl
@[simp] theorem by40 : Try.prog.bytesOf 40 = 8 := by kernel_rfl
@[simp] theorem ze40 : (Try.prog.info? 40).bind (·.zero) = some Go.Value.nilFunc := by kernel_rfl
@[simp] theorem und41 : Try.prog.underlying 41 = some (Go.TypeDesc.pointer 59) := by kernel_rfl
@[simp] theorem ty41 : tyOK Try.prog 41 = true := by kernel_rfl
@[simp] theorem st41 : isStruct Try.prog 41 = false := by kernel_rfl
@[simp] theorem ce41 : Try.prog.cellsOf 41 = 1 := by kernel_rfl
@[simp] theorem by41 : Try.prog.bytesOf 41 = 8 := by kernel_rfl
@[simp] theorem ze41 : (Try.prog.info? 41).bind (·.zero) = some (Go.Value.pointer none) := by kernel_rfl
@[simp] theorem und42 : Try.prog.underlying 42 = some (Go.TypeDesc.func #[9] #[41] false) := by kernel_rfl
@[simp] theorem ty42 : tyOK Try.prog 42 = true := by kernel_rfl
@[simp] theorem st42 : isStruct Try.prog 42 = false := by kernel_rfl
@[simp] theorem ce42 : Try.prog.cellsOf 42 = 1 := by kernel_rfl
@[simp] theorem by42 : Try.prog.bytesOf 42 = 8 := by kernel_rfl
@[simp] theorem ze42 : (Try.prog.info? 42).bind (·.zero) = some Go.Value.nilFunc := by kernel_rfl
@[simp] theorem und43 : Try.prog.underlying 43 = some (Go.TypeDesc.func #[] #[34] false) := by kernel_rfl
@[simp] theorem ty43 : tyOK Try.prog 43 = true := by kernel_rfl
@[simp] theorem st43 : isStruct Try.prog 43 = false := by kernel_rfl
@[simp] theorem ce43 : Try.prog.cellsOf 43 = 1 := by kernel_rfl
@[simp] theorem by43 : Try.prog.bytesOf 43 = 8 := by kernel_rfl
@[simp] theorem ze43 : (Try.prog.info? 43).bind (·.zero) = some Go.Value.nilFunc := by kernel_rfl
@[simp] theorem und44 : Try.prog.underlying 44 = some (Go.TypeDesc.func #[] #[2] false) := by kernel_rfl
@[simp] theorem ty44 : tyOK Try.prog 44 = true := by kernel_rfl
@[simp] theorem st44 : isStruct Try.prog 44 = false := by kernel_rfl
@[simp] theorem ce44 : Try.prog.cellsOf 44 = 1 := by kernel_rfl
@[simp] theorem by44 : Try.prog.bytesOf 44 = 8 := by kernel_rfl
@[simp] theorem ze44 : (Try.prog.info? 44).bind (·.zero) = some Go.Value.nilFunc := by kernel_rfl
@[simp] theorem und45 : Try.prog.underlying 45 = some (Go.TypeDesc.func #[3] #[9] false) := by kernel_rfl
@[simp] theorem ty45 : tyOK Try.prog 45 = true := by kernel_rfl
@[simp] theorem st45 : isStruct Try.prog 45 = false := by kernel_rfl
@[simp] theorem ce45 : Try.prog.cellsOf 45 = 1 := by kernel_rfl
@[simp] theorem by45 : Try.prog.bytesOf 45 = 8 := by kernel_rfl
@[simp] theorem ze45 : (Try.prog.info? 45).bind (·.zero) = some Go.Value.nilFunc := by kernel_rfl
@[simp] theorem und46 : Try.prog.underlying 46 = some (Go.TypeDesc.int Go.IntKind.i64) := by kernel_rfl
@[simp] theorem ty46 : tyOK Try.prog 46 = true := by kernel_rfl
@[simp] theorem st46 : isStruct Try.prog 46 = false := by kernel_rfl
@[simp] theorem ce46 : Try.prog.cellsOf 46 = 1 := by kernel_rfl
@[simp] theorem by46 : Try.prog.bytesOf 46 = 8 := by kernel_rfl
@[simp] theorem ze46 : (Try.prog.info? 46).bind (·.zero) = some (Go.Value.int Go.IntKind.i64 0) := by kernel_rfl
@[simp] theorem und47 : Try.prog.underlying 47 = some (Go.TypeDesc.func #[] #[46] false) := by kernel_rfl
@[simp] theorem ty47 : tyOK Try.prog 47 = true := by kernel_rfl
@[simp] theorem st47 : isStruct Try.prog 47 = false := by kernel_rfl
@[simp] theorem ce47 : Try.prog.cellsOf 47 = 1 := by kernel_rfl
@[simp] theorem by47 : Try.prog.bytesOf 47 = 8 := by kernel_rfl
@[simp] theorem ze47 : (Try.prog.info? 47).bind (·.zero) = some Go.Value.nilFunc := by kernel_rfl
@[simp] theorem und48 : Try.prog.underlying 48 = some (Go.TypeDesc.func #[] #[3] false) := by kernel_rfl
@[simp] theorem ty48 : tyOK Try.prog 48 = true := by kernel_rfl
@[simp] theorem st48 : isStruct Try.prog 48 = false := by kernel_rfl
@[simp] theorem ce48 : Try.prog.cellsOf 48 = 1 := by kernel_rfl
@[simp] theorem by48 : Try.prog.bytesOf 48 = 8 := by kernel_rfl
@[simp] theorem ze48 : (Try.prog.info? 48).bind (·.zero) = some Go.Value.nilFunc := by kernel_rfl
@[simp] theorem und49 : Try.prog.underlying 49 = some (Go.TypeDesc.func #[9, 3] #[4] false) := by kernel_rfl
@[simp] theorem ty49 : tyOK Try.prog 49 = true := by kernel_rfl
@[simp] theorem st49 : isStruct Try.prog 49 = false := by kernel_rfl
@[simp] theorem ce49 : Try.prog.cellsOf 49 = 1 := by kernel_rfl
@[simp] theorem by49 : Try.prog.bytesOf 49 = 8 := by kernel_rfl
@[simp] theorem ze49 : (Try.prog.info? 49).bind (·.zero) = some Go.Value.nilFunc := by kernel_rfl
@[simp] theorem und50 : Try.prog.underlying 50 = some (Go.TypeDesc.slice 52) := by kernel_rfl
@[simp] theorem ty50 : tyOK Try.prog 50 = true := by kernel_rfl
@[simp] theorem st50 : isStruct Try.prog 50 = false := by kernel_rfl
@[simp] theorem ce50 : Try.prog.cellsOf 50 = 1 := by kernel_rfl
@[simp] theorem by50 : Try.prog.bytesOf 50 = 24 := by kernel_rfl
@[simp] theorem ze50 : (Try.prog.info? 50).bind (·.zero) = some (Go.Value.slice none 0 0) := by kernel_rfl
@[simp] theorem und51 : Try.prog.underlying 51 = some (Go.TypeDesc.struct #[{ name := "What", type := 3, offset := 0, embedded := false, tag := "", pkgPath := "", byteOffset := 0 }, { name := "N", type := 34, offset := 1, embedded := false, tag := "", pkgPath := "", byteOffset := 8 }, { name := "S", type := 9, offset := 2, embedded := false, tag := "", pkgPath := "", byteOffset := 16 }]) := by kernel_rfl
@[simp] theorem ty51 : tyOK Try.prog 51 = true := by kernel_rfl
@[simp] theorem st51 : isStruct Try.prog 51 = true := by kernel_rfl
@[simp] theorem ce51 : Try.prog.cellsOf 51 = 3 := by kernel_rfl
@[simp] theorem by51 : Try.prog.bytesOf 51 = 32 := by kernel_rfl
@[simp] theorem ze51 : (Try.prog.info? 51).bind (·.zero) = some (Go.Value.agg #[Go.Value.int Go.IntKind.i64 0, Go.Value.int Go.IntKind.u64 0, Go.Value.string { data := #[] }]) := by kernel_rfl
@[simp] theorem und52 : Try.prog.underlying 52 = some (Go.TypeDesc.struct #[{ name := "What", type := 3, offset := 0, embedded := false, tag := "", pkgPath := "", byteOffset := 0 }, { name := "N", type := 34, offset := 1, embedded := false, tag := "", pkgPath := "", byteOffset := 8 }, { name := "S", type := 9, offset := 2, embedded := false, tag := "", pkgPath := "", byteOffset := 16 }]) := by kernel_rfl
@[simp] theorem ty52 : tyOK Try.prog 52 = true := by kernel_rfl
@[simp] theorem st52 : isStruct Try.prog 52 = true := by kernel_rfl
@[simp] theorem ce52 : Try.prog.cellsOf 52 = 3 := by kernel_rfl
@[simp] theorem by52 : Try.prog.bytesOf 52 = 32 := by kernel_rfl
@[simp] theorem ze52 : (Try.prog.info? 52).bind (·.zero) = some (Go.Value.agg #[Go.Value.int Go.IntKind.i64 0, Go.Value.int Go.IntKind.u64 0, Go.Value.string { data := #[] }]) := by kernel_rfl
@[simp] theorem und53 : Try.prog.underlying 53 = some (Go.TypeDesc.func #[] #[9] false) := by kernel_rfl
@[simp] theorem ty53 : tyOK Try.prog 53 = true := by kernel_rfl
@[simp] theorem st53 : isStruct Try.prog 53 = false := by kernel_rfl
@[simp] theorem ce53 : Try.prog.cellsOf 53 = 1 := by kernel_rfl
@[simp] theorem by53 : Try.prog.bytesOf 53 = 8 := by kernel_rfl
@[simp] theorem ze53 : (Try.prog.info? 53).bind (·.zero) = some Go.Value.nilFunc := by kernel_rfl
@[simp] theorem und54 : Try.prog.underlying 54 = some (Go.TypeDesc.func #[50] #[4] false) := by kernel_rfl
@[simp] theorem ty54 : tyOK Try.prog 54 = true := by kernel_rfl
@[simp] theorem st54 : isStruct Try.prog 54 = false := by kernel_rfl
@[simp] theorem ce54 : Try.prog.cellsOf 54 = 1 := by kernel_rfl
@[simp] theorem by54 : Try.prog.bytesOf 54 = 8 := by kernel_rfl
@[simp] theorem ze54 : (Try.prog.info? 54).bind (·.zero) = some Go.Value.nilFunc := by kernel_rfl
@[simp] theorem und55 : Try.prog.underlying 55 = some (Go.TypeDesc.func #[3] #[3] false) := by kernel_rfl
@[simp] theorem ty55 : tyOK Try.prog 55 = true := by kernel_rfl
@[simp] theorem st55 : isStruct Try.prog 55 = false := by kernel_rfl
@[simp] theorem ce55 : Try.prog.cellsOf 55 = 1 := by kernel_rfl
@[simp] theorem by55 : Try.prog.bytesOf 55 = 8 := by kernel_rfl
@[simp] theorem ze55 : (Try.prog.info? 55).bind (·.zero) = some Go.Value.nilFunc := by kernel_rfl
@[simp] theorem und56 : Try.prog.underlying 56 = some (Go.TypeDesc.func #[23] #[23] false) := by kernel_rfl
@[simp] theorem ty56 : tyOK Try.prog 56 = true := by kernel_rfl
@[simp] theorem st56 : isStruct Try.prog 56 = false := by kernel_rfl
@[simp] theorem ce56 : Try.prog.cellsOf 56 = 1 := by kernel_rfl
@[simp] theorem by56 : Try.prog.bytesOf 56 = 8 := by kernel_rfl
@[simp] theorem ze56 : (Try.prog.info? 56).bind (·.zero) = some Go.Value.nilFunc := by kernel_rfl
@[simp] theorem und57 : Try.prog.underlying 57 = some (Go.TypeDesc.func #[23, 23] #[23] false) := by kernel_rfl
@[simp] theorem ty57 : tyOK Try.prog 57 = true := by kernel_rfl
@[simp] theorem st57 : isStruct Try.prog 57 = false := by kernel_rfl
@[simp] theorem ce57 : Try.prog.cellsOf 57 = 1 := by kernel_rfl
@[simp] theorem by57 : Try.prog.bytesOf 57 = 8 := by kernel_rfl
@[simp] theorem ze57 : (Try.prog.info? 57).bind (·.zero) = some Go.Value.nilFunc := by kernel_rfl
@[simp] theorem und58 : Try.prog.underlying 58 = some (Go.TypeDesc.struct #[{ name := "s", type := 9, offset := 0, embedded := false, tag := "", pkgPath := "switchyard/pack", byteOffset := 0 }, { name := "bad", type := 46, offset := 1, embedded := false, tag := "", pkgPath := "switchyard/pack", byteOffset := 16 }]) := by kernel_rfl
@[simp] theorem ty58 : tyOK Try.prog 58 = true := by kernel_rfl
@[simp] theorem st58 : isStruct Try.prog 58 = true := by kernel_rfl
@[simp] theorem ce58 : Try.prog.cellsOf 58 = 2 := by kernel_rfl
@[simp] theorem by58 : Try.prog.bytesOf 58 = 24 := by kernel_rfl
@[simp] theorem ze58 : (Try.prog.info? 58).bind (·.zero) = some (Go.Value.agg #[Go.Value.string { data := #[] }, Go.Value.int Go.IntKind.i64 0]) := by kernel_rfl
@[simp] theorem und59 : Try.prog.underlying 59 = some (Go.TypeDesc.struct #[{ name := "s", type := 9, offset := 0, embedded := false, tag := "", pkgPath := "switchyard/pack", byteOffset := 0 }, { name := "bad", type := 46, offset := 1, embedded := false, tag := "", pkgPath := "switchyard/pack", byteOffset := 16 }]) := by kernel_rfl
@[simp] theorem ty59 : tyOK Try.prog 59 = true := by kernel_rfl
@[simp] theorem st59 : isStruct Try.prog 59 = true := by kernel_rfl
@[simp] theorem ce59 : Try.prog.cellsOf 59 = 2 := by kernel_rfl
@[simp] theorem by59 : Try.prog.bytesOf 59 = 24 := by kernel_rfl
@[simp] theorem ze59 : (Try.prog.info? 59).bind (·.zero) = some (Go.Value.agg #[Go.Value.string { data := #[] }, Go.Value.int Go.IntKind.i64 0]) := by kernel_rfl
@[simp] theorem und60 : Try.prog.underlying 60 = some (Go.TypeDesc.tuple #[34, 3, 46]) := by kernel_rfl
@[simp] theorem ty60 : tyOK Try.prog 60 = true := by kernel_rfl
@[simp] theorem st60 : isStruct Try.prog 60 = false := by kernel_rfl
@[simp] theorem ce60 : Try.prog.cellsOf 60 = 1 := by kernel_rfl
@[simp] theorem by60 : Try.prog.bytesOf 60 = 0 := by kernel_rfl
@[simp] theorem ze60 : (Try.prog.info? 60).bind (·.zero) = some (Go.Value.tuple #[Go.Value.int Go.IntKind.u64 0, Go.Value.int Go.IntKind.i64 0, Go.Value.int Go.IntKind.i64 0]) := by kernel_rfl
@[simp] theorem und61 : Try.prog.underlying 61 = some (Go.TypeDesc.func #[] #[34, 3, 46] false) := by kernel_rfl
@[simp] theorem ty61 : tyOK Try.prog 61 = true := by kernel_rfl
@[simp] theorem st61 : isStruct Try.prog 61 = false := by kernel_rfl
@[simp] theorem ce61 : Try.prog.cellsOf 61 = 1 := by kernel_rfl
@[simp] theorem by61 : Try.prog.bytesOf 61 = 8 := by kernel_rfl
@[simp] theorem ze61 : (Try.prog.info? 61).bind (·.zero) = some Go.Value.nilFunc := by kernel_rfl
@[simp] theorem und62 : Try.prog.underlying 62 = some (Go.TypeDesc.func #[46] #[] false) := by kernel_rfl
@[simp] theorem ty62 : tyOK Try.prog 62 = true := by kernel_rfl
@[simp] theorem st62 : isStruct Try.prog 62 = false := by kernel_rfl
@[simp] theorem ce62 : Try.prog.cellsOf 62 = 1 := by kernel_rfl
@[simp] theorem by62 : Try.prog.bytesOf 62 = 8 := by kernel_rfl
@[simp] theorem ze62 : (Try.prog.info? 62).bind (·.zero) = some Go.Value.nilFunc := by kernel_rfl
@[simp] theorem und63 : Try.prog.underlying 63 = some (Go.TypeDesc.struct #[{ name := "_interface", type := 17, offset := 0, embedded := false, tag := "", pkgPath := "runtime", byteOffset := 0 }, { name := "concrete", type := 17, offset := 1, embedded := false, tag := "", pkgPath := "runtime", byteOffset := 8 }, { name := "asserted", type := 17, offset := 2, embedded := false, tag := "", pkgPath := "runtime", byteOffset := 16 }, { name := "missingMethod", type := 9, offset := 3, embedded := false, tag := "", pkgPath := "runtime", byteOffset := 24 }]) := by kernel_rfl
@[simp] theorem ty63 : tyOK Try.prog 63 = true := by kernel_rfl
@[simp] theorem st63 : isStruct Try.prog 63 = true := by kernel_rfl
@[simp] theorem ce63 : Try.prog.cellsOf 63 = 4 := by kernel_rfl
@[simp] theorem by63 : Try.prog.bytesOf 63 = 40 := by kernel_rfl
@[simp] theorem ze63 : (Try.prog.info? 63).bind (·.zero) = some (Go.Value.agg #[Go.Value.pointer none, Go.Value.pointer none, Go.Value.pointer none, Go.Value.string { data := #[] }]) := by kernel_rfl
@[simp] theorem und64 : Try.prog.underlying 64 = some (Go.TypeDesc.struct #[{ name := "_interface", type := 17, offset := 0, embedded := false, tag := "", pkgPath := "runtime", byteOffset := 0 }, { name := "concrete", type := 17, offset := 1, embedded := false, tag := "", pkgPath := "runtime", byteOffset := 8 }, { name := "asserted", type := 17, offset := 2, embedded := false, tag := "", pkgPath := "runtime", byteOffset := 16 }, { name := "missingMethod", type := 9, offset := 3, embedded := false, tag := "", pkgPath := "runtime", byteOffset := 24 }]) := by kernel_rfl
@[simp] theorem ty64 : tyOK Try.prog 64 = true := by kernel_rfl
@[simp] theorem st64 : isStruct Try.prog 64 = true := by kernel_rfl
@[simp] theorem ce64 : Try.prog.cellsOf 64 = 4 := by kernel_rfl
@[simp] theorem by64 : Try.prog.bytesOf 64 = 40 := by kernel_rfl
@[simp] theorem ze64 : (Try.prog.info? 64).bind (·.zero) = some (Go.Value.agg #[Go.Value.pointer none, Go.Value.pointer none, Go.Value.pointer none, Go.Value.string { data := #[] }]) := by kernel_rfl
@[simp] theorem und65 : Try.prog.underlying 65 = some (Go.TypeDesc.array 0 16) := by kernel_rfl
@[simp] theorem ty65 : tyOK Try.prog 65 = true := by kernel_rfl
@[simp] theorem st65 : isStruct Try.prog 65 = true := by kernel_rfl
@[simp] theorem ce65 : Try.prog.cellsOf 65 = 0 := by kernel_rfl
@[simp] theorem by65 : Try.prog.bytesOf 65 = 0 := by kernel_rfl
@[simp] theorem ze65 : (Try.prog.info? 65).bind (·.zero) = some (Go.Value.agg #[]) := by kernel_rfl
@[simp] theorem und66 : Try.prog.underlying 66 = some (Go.TypeDesc.struct #[{ name := "_", type := 65, offset := 0, embedded := false, tag := "", pkgPath := "runtime", byteOffset := 0 }]) := by kernel_rfl
@[simp] theorem ty66 : tyOK Try.prog 66 = true := by kernel_rfl
@[simp] theorem st66 : isStruct Try.prog 66 = true := by kernel_rfl
@[simp] theorem ce66 : Try.prog.cellsOf 66 = 0 := by kernel_rfl
@[simp] theorem by66 : Try.prog.bytesOf 66 = 0 := by kernel_rfl
@[simp] theorem ze66 : (Try.prog.info? 66).bind (·.zero) = some (Go.Value.agg #[]) := by kernel_rfl
@[simp] theorem und67 : Try.prog.underlying 67 = some (Go.TypeDesc.struct #[{ name := "_", type := 65, offset := 0, embedded := false, tag := "", pkgPath := "runtime", byteOffset := 0 }]) := by kernel_rfl
@[simp] theorem ty67 : tyOK Try.prog 67 = true := by kernel_rfl
@[simp] theorem st67 : isStruct Try.prog 67 = true := by kernel_rfl
@[simp] theorem ce67 : Try.prog.cellsOf 67 = 0 := by kernel_rfl
@[simp] theorem by67 : Try.prog.bytesOf 67 = 0 := by kernel_rfl
@[simp] theorem ze67 : (Try.prog.info? 67).bind (·.zero) = some (Go.Value.agg #[]) := by kernel_rfl
@[simp] theorem und68 : Try.prog.underlying 68 = some (Go.TypeDesc.int Go.IntKind.u8) := by kernel_rfl
@[simp] theorem ty68 : tyOK Try.prog 68 = true := by kernel_rfl
@[simp] theorem st68 : isStruct Try.prog 68 = false := by kernel_rfl
@[simp] theorem ce68 : Try.prog.cellsOf 68 = 1 := by kernel_rfl
@[simp] theorem by68 : Try.prog.bytesOf 68 = 1 := by kernel_rfl
@[simp] theorem ze68 : (Try.prog.info? 68).bind (·.zero) = some (Go.Value.int Go.IntKind.u8 0) := by kernel_rfl
@[simp] theorem und69 : Try.prog.underlying 69 = some (Go.TypeDesc.int Go.IntKind.u8) := by kernel_rfl
@[simp] theorem ty69 : tyOK Try.prog 69 = true := by kernel_rfl
@[simp] theorem st69 : isStruct Try.prog 69 = false := by kernel_rfl
@[simp] theorem ce69 : Try.prog.cellsOf 69 = 1 := by kernel_rfl
@[simp] theorem by69 : Try.prog.bytesOf 69 = 1 := by kernel_rfl
@[simp] theorem ze69 : (Try.prog.info? 69).bind (·.zero) = some (Go.Value.int Go.IntKind.u8 0) := by kernel_rfl
@[simp] theorem und70 : Try.prog.underlying 70 = some (Go.TypeDesc.func #[76, 76] #[4] false) := by kernel_rfl
@[simp] theorem ty70 : tyOK Try.prog 70 = true := by kernel_rfl
@[simp] theorem st70 : isStruct Try.prog 70 = false := by kernel_rfl
@[simp] theorem ce70 : Try.prog.cellsOf 70 = 1 := by kernel_rfl
@[simp] theorem by70 : Try.prog.bytesOf 70 = 8 := by kernel_rfl
@[simp] theorem ze70 : (Try.prog.info? 70).bind (·.zero) = some Go.Value.nilFunc := by kernel_rfl
@[simp] theorem und71 : Try.prog.underlying 71 = some (Go.TypeDesc.pointer 5) := by kernel_rfl
@[simp] theorem ty71 : tyOK Try.prog 71 = true := by kernel_rfl
@[simp] theorem st71 : isStruct Try.prog 71 = false := by kernel_rfl
@[simp] theorem ce71 : Try.prog.cellsOf 71 = 1 := by kernel_rfl
@[simp] theorem by71 : Try.prog.bytesOf 71 = 8 := by kernel_rfl
@[simp] theorem ze71 : (Try.prog.info? 71).bind (·.zero) = some (Go.Value.pointer none) := by kernel_rfl
@[simp] theorem und72 : Try.prog.underlying 72 = some (Go.TypeDesc.int Go.IntKind.i32) := by kernel_rfl
@[simp] theorem ty72 : tyOK Try.prog 72 = true := by kernel_rfl
@[simp] theorem st72 : isStruct Try.prog 72 = false := by kernel_rfl
@[simp] theorem ce72 : Try.prog.cellsOf 72 = 1 := by kernel_rfl
@[simp] theorem by72 : Try.prog.bytesOf 72 = 4 := by kernel_rfl
@[simp] theorem ze72 : (Try.prog.info? 72).bind (·.zero) = some (Go.Value.int Go.IntKind.i32 0) := by kernel_rfl
@[simp] theorem und73 : Try.prog.underlying 73 = some (Go.TypeDesc.int Go.IntKind.i32) := by kernel_rfl
@[simp] theorem ty73 : tyOK Try.prog 73 = true := by kernel_rfl
@[simp] theorem st73 : isStruct Try.prog 73 = false := by kernel_rfl
@[simp] theorem ce73 : Try.prog.cellsOf 73 = 1 := by kernel_rfl
@[simp] theorem by73 : Try.prog.bytesOf 73 = 4 := by kernel_rfl
@[simp] theorem ze73 : (Try.prog.info? 73).bind (·.zero) = some (Go.Value.int Go.IntKind.i32 0) := by kernel_rfl
@[simp] theorem und74 : Try.prog.underlying 74 = some (Go.TypeDesc.struct #[{ name := "Size_", type := 12, offset := 0, embedded := false, tag := "", pkgPath := "", byteOffset := 0 }, { name := "PtrBytes", type := 12, offset := 1, embedded := false, tag := "", pkgPath := "", byteOffset := 8 }, { name := "Hash", type := 23, offset := 2, embedded := false, tag := "", pkgPath := "", byteOffset := 16 }, { name := "TFlag", type := 68, offset := 3, embedded := false, tag := "", pkgPath := "", byteOffset := 20 }, { name := "Align_", type := 5, offset := 4, embedded := false, tag := "", pkgPath := "", byteOffset := 21 }, { name := "FieldAlign_", type := 5, offset := 5, embedded := false, tag := "", pkgPath := "", byteOffset := 22 }, { name := "Kind_", type := 69, offset := 6, embedded := false, tag := "", pkgPath := "", byteOffset := 23 }, { name := "Equal", type := 70, offset := 7, embedded := false, tag := "", pkgPath := "", byteOffset := 24 }, { name := "GCData", type := 71, offset := 8, embedded := false, tag := "", pkgPath := "", byteOffset := 32 }, { name := "Str", type := 72, offset := 9, embedded := false, tag := "", pkgPath := "", byteOffset := 40 }, { name := "PtrToThis", type := 73, offset := 10, embedded := false, tag := "", pkgPath := "", byteOffset := 44 }]) := by kernel_rfl
@[simp] theorem ty74 : tyOK Try.prog 74 = true := by kernel_rfl
@[simp] theorem st74 : isStruct Try.prog 74 = true := by kernel_rfl
@[simp] theorem ce74 : Try.prog.cellsOf 74 = 11 := by kernel_rfl
@[simp] theorem by74 : Try.prog.bytesOf 74 = 48 := by kernel_rfl
@[simp] theorem ze74 : (Try.prog.info? 74).bind (·.zero) = some (Go.Value.agg #[Go.Value.int Go.IntKind.u64 0, Go.Value.int Go.IntKind.u64 0, Go.Value.int Go.IntKind.u32 0, Go.Value.int Go.IntKind.u8 0, Go.Value.int Go.IntKind.u8 0, Go.Value.int Go.IntKind.u8 0, Go.Value.int Go.IntKind.u8 0, Go.Value.nilFunc, Go.Value.pointer none, Go.Value.int Go.IntKind.i32 0, Go.Value.int Go.IntKind.i32 0]) := by kernel_rfl
@[simp] theorem und75 : Try.prog.underlying 75 = some (Go.TypeDesc.struct #[{ name := "Size_", type := 12, offset := 0, embedded := false, tag := "", pkgPath := "", byteOffset := 0 }, { name := "PtrBytes", type := 12, offset := 1, embedded := false, tag := "", pkgPath := "", byteOffset := 8 }, { name := "Hash", type := 23, offset := 2, embedded := false, tag := "", pkgPath := "", byteOffset := 16 }, { name := "TFlag", type := 68, offset := 3, embedded := false, tag := "", pkgPath := "", byteOffset := 20 }, { name := "Align_", type := 5, offset := 4, embedded := false, tag := "", pkgPath := "", byteOffset := 21 }, { name := "FieldAlign_", type := 5, offset := 5, embedded := false, tag := "", pkgPath := "", byteOffset := 22 }, { name := "Kind_", type := 69, offset := 6, embedded := false, tag := "", pkgPath := "", byteOffset := 23 }, { name := "Equal", type := 70, offset := 7, embedded := false, tag := "", pkgPath := "", byteOffset := 24 }, { name := "GCData", type := 71, offset := 8, embedded := false, tag := "", pkgPath := "", byteOffset := 32 }, { name := "Str", type := 72, offset := 9, embedded := false, tag := "", pkgPath := "", byteOffset := 40 }, { name := "PtrToThis", type := 73, offset := 10, embedded := false, tag := "", pkgPath := "", byteOffset := 44 }]) := by kernel_rfl
@[simp] theorem ty75 : tyOK Try.prog 75 = true := by kernel_rfl
@[simp] theorem st75 : isStruct Try.prog 75 = true := by kernel_rfl
@[simp] theorem ce75 : Try.prog.cellsOf 75 = 11 := by kernel_rfl
@[simp] theorem by75 : Try.prog.bytesOf 75 = 48 := by kernel_rfl
@[simp] theorem ze75 : (Try.prog.info? 75).bind (·.zero) = some (Go.Value.agg #[Go.Value.int Go.IntKind.u64 0, Go.Value.int Go.IntKind.u64 0, Go.Value.int Go.IntKind.u32 0, Go.Value.int Go.IntKind.u8 0, Go.Value.int Go.IntKind.u8 0, Go.Value.int Go.IntKind.u8 0, Go.Value.int Go.IntKind.u8 0, Go.Value.nilFunc, Go.Value.pointer none, Go.Value.int Go.IntKind.i32 0, Go.Value.int Go.IntKind.i32 0]) := by kernel_rfl
@[simp] theorem und76 : Try.prog.underlying 76 = some Go.TypeDesc.unsafePointer := by kernel_rfl
@[simp] theorem ty76 : tyOK Try.prog 76 = true := by kernel_rfl
@[simp] theorem st76 : isStruct Try.prog 76 = false := by kernel_rfl
@[simp] theorem ce76 : Try.prog.cellsOf 76 = 1 := by kernel_rfl
@[simp] theorem by76 : Try.prog.bytesOf 76 = 8 := by kernel_rfl
@[simp] theorem ze76 : (Try.prog.info? 76).bind (·.zero) = some (Go.Value.pointer none) := by kernel_rfl
end Go.Proofs.Ytmidgfmopmpppaa
