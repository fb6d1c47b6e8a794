/- Lemmas that lead to the statement: The checker takes the machine's code for the given program's (part). -/
import Derived.Test.YtmgehmhebnjaaaaGreatDoorM7
import Derived.Test.YtmgehmhebnjaaaaGreatDoorM1
import Derived.Test.YtmgehmhebnjaaaaGreatDoorProg
set_option linter.all false
set_option maxRecDepth 1000000
namespace Dm.YtmgehmhebnjaaaaGreatDoor
open Go
theorem k53 : chkFun Go.Proofs.Tryz.prog 53 m53 = true := by decide +kernel
theorem k54 : chkFun Go.Proofs.Tryz.prog 54 m54 = true := by decide +kernel
theorem k55 : chkFun Go.Proofs.Tryz.prog 55 m55 = true := by decide +kernel
theorem k56 : chkFun Go.Proofs.Tryz.prog 56 m56 = true := by decide +kernel
theorem k57 : chkFun Go.Proofs.Tryz.prog 57 m57 = true := by decide +kernel
theorem k58 : chkFun Go.Proofs.Tryz.prog 58 m58 = true := by decide +kernel
theorem k59 : chkFun Go.Proofs.Tryz.prog 59 m59 = true := by decide +kernel
theorem k60 : chkFun Go.Proofs.Tryz.prog 60 m60 = true := by decide +kernel
theorem k61 : chkFun Go.Proofs.Tryz.prog 61 m61 = true := by decide +kernel
theorem k62 : chkFun Go.Proofs.Tryz.prog 62 m62 = true := by decide +kernel
theorem k63 : chkFun Go.Proofs.Tryz.prog 63 m63 = true := by decide +kernel
theorem k64 : chkFun Go.Proofs.Tryz.prog 64 m64 = true := by decide +kernel
theorem k65 : chkFun Go.Proofs.Tryz.prog 65 m65 = true := by decide +kernel
theorem k66 : chkFun Go.Proofs.Tryz.prog 66 m66 = true := by decide +kernel
theorem k67 : chkFun Go.Proofs.Tryz.prog 67 m67 = true := by decide +kernel
theorem k68 : chkFun Go.Proofs.Tryz.prog 68 m68 = true := by decide +kernel
theorem k69 : chkFun Go.Proofs.Tryz.prog 69 m69 = true := by decide +kernel
theorem k70 : chkFun Go.Proofs.Tryz.prog 70 m70 = true := by decide +kernel
theorem k71 : chkFun Go.Proofs.Tryz.prog 71 m71 = true := by decide +kernel
theorem k72 : chkFun Go.Proofs.Tryz.prog 72 m72 = true := by decide +kernel
theorem k73 : chkFun Go.Proofs.Tryz.prog 73 m73 = true := by decide +kernel
theorem k74 : chkFun Go.Proofs.Tryz.prog 74 m74 = true := by decide +kernel
theorem k75 : chkFun Go.Proofs.Tryz.prog 75 m75 = true := by decide +kernel
theorem k76 : chkFun Go.Proofs.Tryz.prog 76 m76 = true := by decide +kernel
theorem k77 : chkFun Go.Proofs.Tryz.prog 77 m77 = true := by decide +kernel
theorem k78 : chkFun Go.Proofs.Tryz.prog 78 m78 = true := by decide +kernel
theorem k79 : chkFun Go.Proofs.Tryz.prog 79 m79 = true := by decide +kernel
theorem k80 : chkFun Go.Proofs.Tryz.prog 80 m80 = true := by decide +kernel
theorem k81 : chkFun Go.Proofs.Tryz.prog 81 m81 = true := by decide +kernel
theorem k82 : chkFun Go.Proofs.Tryz.prog 82 m82 = true := by decide +kernel
theorem k83 : chkFun Go.Proofs.Tryz.prog 83 m83 = true := by decide +kernel
theorem k84 : chkFun Go.Proofs.Tryz.prog 84 m84 = true := by decide +kernel
theorem k85 : chkFun Go.Proofs.Tryz.prog 85 m85 = true := by decide +kernel
theorem k86 : chkFun Go.Proofs.Tryz.prog 86 m86 = true := by decide +kernel
theorem k87 : chkFun Go.Proofs.Tryz.prog 87 m87 = true := by decide +kernel
theorem k88 : chkFun Go.Proofs.Tryz.prog 88 m88 = true := by decide +kernel
theorem k89 : chkFun Go.Proofs.Tryz.prog 89 m89 = true := by decide +kernel
theorem k90 : chkFun Go.Proofs.Tryz.prog 90 m90 = true := by decide +kernel
theorem k91 : chkFun Go.Proofs.Tryz.prog 91 m91 = true := by decide +kernel
theorem k92 : chkFun Go.Proofs.Tryz.prog 92 m92 = true := by decide +kernel
theorem k93 : chkFun Go.Proofs.Tryz.prog 93 m93 = true := by decide +kernel
theorem k94 : chkFun Go.Proofs.Tryz.prog 94 m94 = true := by decide +kernel
theorem k95 : chkFun Go.Proofs.Tryz.prog 95 m95 = true := by decide +kernel
theorem k96 : chkFun Go.Proofs.Tryz.prog 96 m96 = true := by decide +kernel
theorem k97 : chkFun Go.Proofs.Tryz.prog 97 m97 = true := by decide +kernel
theorem k98 : chkFun Go.Proofs.Tryz.prog 98 m98 = true := by decide +kernel
theorem k99 : chkFun Go.Proofs.Tryz.prog 99 m99 = true := by decide +kernel
theorem k100 : chkFun Go.Proofs.Tryz.prog 100 m100 = true := by decide +kernel
end Dm.YtmgehmhebnjaaaaGreatDoor
