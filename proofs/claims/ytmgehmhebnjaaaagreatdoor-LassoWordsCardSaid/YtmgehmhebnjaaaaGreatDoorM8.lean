/- Lemmas that lead to the statement: The checker takes the machine's code for the given program's (part). -/
import Derived.Test.YtmgehmhebnjaaaaGreatDoorM7
import Derived.Test.YtmgehmhebnjaaaaGreatDoorM1
import Derived.Test.YtmgehmhebnjaaaaGreatDoorProg
set_option linter.all false
set_option maxRecDepth 1000000
namespace Dm.YtmgehmhebnjaaaaGreatDoor
open Go
theorem k3 : chkFun Go.Proofs.Tryz.prog 3 m3 = true := by decide +kernel
theorem k4 : chkFun Go.Proofs.Tryz.prog 4 m4 = true := by decide +kernel
theorem k5 : chkFun Go.Proofs.Tryz.prog 5 m5 = true := by decide +kernel
theorem k6 : chkFun Go.Proofs.Tryz.prog 6 m6 = true := by decide +kernel
theorem k7 : chkFun Go.Proofs.Tryz.prog 7 m7 = true := by decide +kernel
theorem k8 : chkFun Go.Proofs.Tryz.prog 8 m8 = true := by decide +kernel
theorem k9 : chkFun Go.Proofs.Tryz.prog 9 m9 = true := by decide +kernel
theorem k10 : chkFun Go.Proofs.Tryz.prog 10 m10 = true := by decide +kernel
theorem k11 : chkFun Go.Proofs.Tryz.prog 11 m11 = true := by decide +kernel
theorem k12 : chkFun Go.Proofs.Tryz.prog 12 m12 = true := by decide +kernel
theorem k13 : chkFun Go.Proofs.Tryz.prog 13 m13 = true := by decide +kernel
theorem k14 : chkFun Go.Proofs.Tryz.prog 14 m14 = true := by decide +kernel
theorem k15 : chkFun Go.Proofs.Tryz.prog 15 m15 = true := by decide +kernel
theorem k16 : chkFun Go.Proofs.Tryz.prog 16 m16 = true := by decide +kernel
theorem k17 : chkFun Go.Proofs.Tryz.prog 17 m17 = true := by decide +kernel
theorem k18 : chkFun Go.Proofs.Tryz.prog 18 m18 = true := by decide +kernel
theorem k19 : chkFun Go.Proofs.Tryz.prog 19 m19 = true := by decide +kernel
theorem k20 : chkFun Go.Proofs.Tryz.prog 20 m20 = true := by decide +kernel
theorem k21 : chkFun Go.Proofs.Tryz.prog 21 m21 = true := by decide +kernel
theorem k22 : chkFun Go.Proofs.Tryz.prog 22 m22 = true := by decide +kernel
theorem k23 : chkFun Go.Proofs.Tryz.prog 23 m23 = true := by decide +kernel
theorem k24 : chkFun Go.Proofs.Tryz.prog 24 m24 = true := by decide +kernel
theorem k25 : chkFun Go.Proofs.Tryz.prog 25 m25 = true := by decide +kernel
theorem k26 : chkFun Go.Proofs.Tryz.prog 26 m26 = true := by decide +kernel
theorem k27 : chkFun Go.Proofs.Tryz.prog 27 m27 = true := by decide +kernel
theorem k28 : chkFun Go.Proofs.Tryz.prog 28 m28 = true := by decide +kernel
theorem k29 : chkFun Go.Proofs.Tryz.prog 29 m29 = true := by decide +kernel
theorem k30 : chkFun Go.Proofs.Tryz.prog 30 m30 = true := by decide +kernel
theorem k31 : chkFun Go.Proofs.Tryz.prog 31 m31 = true := by decide +kernel
theorem k32 : chkFun Go.Proofs.Tryz.prog 32 m32 = true := by decide +kernel
theorem k33 : chkFun Go.Proofs.Tryz.prog 33 m33 = true := by decide +kernel
theorem k34 : chkFun Go.Proofs.Tryz.prog 34 m34 = true := by decide +kernel
theorem k35 : chkFun Go.Proofs.Tryz.prog 35 m35 = true := by decide +kernel
theorem k36 : chkFun Go.Proofs.Tryz.prog 36 m36 = true := by decide +kernel
theorem k37 : chkFun Go.Proofs.Tryz.prog 37 m37 = true := by decide +kernel
theorem k38 : chkFun Go.Proofs.Tryz.prog 38 m38 = true := by decide +kernel
theorem k39 : chkFun Go.Proofs.Tryz.prog 39 m39 = true := by decide +kernel
theorem k40 : chkFun Go.Proofs.Tryz.prog 40 m40 = true := by decide +kernel
theorem k41 : chkFun Go.Proofs.Tryz.prog 41 m41 = true := by decide +kernel
theorem k42 : chkFun Go.Proofs.Tryz.prog 42 m42 = true := by decide +kernel
theorem k43 : chkFun Go.Proofs.Tryz.prog 43 m43 = true := by decide +kernel
theorem k44 : chkFun Go.Proofs.Tryz.prog 44 m44 = true := by decide +kernel
theorem k45 : chkFun Go.Proofs.Tryz.prog 45 m45 = true := by decide +kernel
theorem k46 : chkFun Go.Proofs.Tryz.prog 46 m46 = true := by decide +kernel
theorem k47 : chkFun Go.Proofs.Tryz.prog 47 m47 = true := by decide +kernel
theorem k48 : chkFun Go.Proofs.Tryz.prog 48 m48 = true := by decide +kernel
theorem k49 : chkFun Go.Proofs.Tryz.prog 49 m49 = true := by decide +kernel
theorem k50 : chkFun Go.Proofs.Tryz.prog 50 m50 = true := by decide +kernel
theorem k51 : chkFun Go.Proofs.Tryz.prog 51 m51 = true := by decide +kernel
theorem k52 : chkFun Go.Proofs.Tryz.prog 52 m52 = true := by decide +kernel
end Dm.YtmgehmhebnjaaaaGreatDoor
