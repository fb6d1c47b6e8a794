/- Lemmas that lead to the statement: The checker takes the machine's code for the given program's (part). -/
import Derived.Test.YtmgehmhebnjaaaaGreatDoorM7
import Derived.Test.YtmgehmhebnjaaaaGreatDoorM1
import Derived.Test.YtmgehmhebnjaaaaGreatDoorProg
set_option linter.all false
set_option maxRecDepth 1000000
namespace Dm.YtmgehmhebnjaaaaGreatDoor
open Go
theorem k101 : chkFun Go.Proofs.Tryz.prog 101 m101 = true := by decide +kernel
theorem k102 : chkFun Go.Proofs.Tryz.prog 102 m102 = true := by decide +kernel
theorem k103 : chkFun Go.Proofs.Tryz.prog 103 m103 = true := by decide +kernel
theorem k104 : chkFun Go.Proofs.Tryz.prog 104 m104 = true := by decide +kernel
theorem k105 : chkFun Go.Proofs.Tryz.prog 105 m105 = true := by decide +kernel
theorem k106 : chkFun Go.Proofs.Tryz.prog 106 m106 = true := by decide +kernel
theorem k107 : chkFun Go.Proofs.Tryz.prog 107 m107 = true := by decide +kernel
theorem k108 : chkFun Go.Proofs.Tryz.prog 108 m108 = true := by decide +kernel
theorem k109 : chkFun Go.Proofs.Tryz.prog 109 m109 = true := by decide +kernel
theorem k110 : chkFun Go.Proofs.Tryz.prog 110 m110 = true := by decide +kernel
theorem k111 : chkFun Go.Proofs.Tryz.prog 111 m111 = true := by decide +kernel
theorem k112 : chkFun Go.Proofs.Tryz.prog 112 m112 = true := by decide +kernel
theorem k113 : chkFun Go.Proofs.Tryz.prog 113 m113 = true := by decide +kernel
theorem k114 : chkFun Go.Proofs.Tryz.prog 114 m114 = true := by decide +kernel
theorem k115 : chkFun Go.Proofs.Tryz.prog 115 m115 = true := by decide +kernel
theorem k116 : chkFun Go.Proofs.Tryz.prog 116 m116 = true := by decide +kernel
theorem k117 : chkFun Go.Proofs.Tryz.prog 117 m117 = true := by decide +kernel
theorem k118 : chkFun Go.Proofs.Tryz.prog 118 m118 = true := by decide +kernel
theorem k119 : chkFun Go.Proofs.Tryz.prog 119 m119 = true := by decide +kernel
theorem k120 : chkFun Go.Proofs.Tryz.prog 120 m120 = true := by decide +kernel
theorem k121 : chkFun Go.Proofs.Tryz.prog 121 m121 = true := by decide +kernel
theorem k122 : chkFun Go.Proofs.Tryz.prog 122 m122 = true := by decide +kernel
theorem k123 : chkFun Go.Proofs.Tryz.prog 123 m123 = true := by decide +kernel
theorem k124 : chkFun Go.Proofs.Tryz.prog 124 m124 = true := by decide +kernel
theorem k125 : chkFun Go.Proofs.Tryz.prog 125 m125 = true := by decide +kernel
theorem k126 : chkFun Go.Proofs.Tryz.prog 126 m126 = true := by decide +kernel
theorem k127 : chkFun Go.Proofs.Tryz.prog 127 m127 = true := by decide +kernel
theorem k128 : chkFun Go.Proofs.Tryz.prog 128 m128 = true := by decide +kernel
theorem k129 : chkFun Go.Proofs.Tryz.prog 129 m129 = true := by decide +kernel
theorem k130 : chkFun Go.Proofs.Tryz.prog 130 m130 = true := by decide +kernel
theorem k131 : chkFun Go.Proofs.Tryz.prog 131 m131 = true := by decide +kernel
theorem k132 : chkFun Go.Proofs.Tryz.prog 132 m132 = true := by decide +kernel
theorem k133 : chkFun Go.Proofs.Tryz.prog 133 m133 = true := by decide +kernel
theorem k134 : chkFun Go.Proofs.Tryz.prog 134 m134 = true := by decide +kernel
theorem k135 : chkFun Go.Proofs.Tryz.prog 135 m135 = true := by decide +kernel
theorem k136 : chkFun Go.Proofs.Tryz.prog 136 m136 = true := by decide +kernel
theorem k137 : chkFun Go.Proofs.Tryz.prog 137 m137 = true := by decide +kernel
theorem k138 : chkFun Go.Proofs.Tryz.prog 138 m138 = true := by decide +kernel
theorem k139 : chkFun Go.Proofs.Tryz.prog 139 m139 = true := by decide +kernel
theorem k140 : chkFun Go.Proofs.Tryz.prog 140 m140 = true := by decide +kernel
theorem k141 : chkFun Go.Proofs.Tryz.prog 141 m141 = true := by decide +kernel
theorem k142 : chkFun Go.Proofs.Tryz.prog 142 m142 = true := by decide +kernel
theorem k143 : chkFun Go.Proofs.Tryz.prog 143 m143 = true := by decide +kernel
theorem k144 : chkFun Go.Proofs.Tryz.prog 144 m144 = true := by decide +kernel
theorem k145 : chkFun Go.Proofs.Tryz.prog 145 m145 = true := by decide +kernel
theorem k146 : chkFun Go.Proofs.Tryz.prog 146 m146 = true := by decide +kernel
theorem k147 : chkFun Go.Proofs.Tryz.prog 147 m147 = true := by decide +kernel
theorem k148 : chkFun Go.Proofs.Tryz.prog 148 m148 = true := by decide +kernel
theorem k149 : chkFun Go.Proofs.Tryz.prog 149 m149 = true := by decide +kernel
theorem k150 : chkFun Go.Proofs.Tryz.prog 150 m150 = true := by decide +kernel
theorem k151 : chkFun Go.Proofs.Tryz.prog 151 m151 = true := by decide +kernel
theorem k152 : chkFun Go.Proofs.Tryz.prog 152 m152 = true := by decide +kernel
theorem k153 : chkFun Go.Proofs.Tryz.prog 153 m153 = true := by decide +kernel
theorem k154 : chkFun Go.Proofs.Tryz.prog 154 m154 = true := by decide +kernel
theorem k155 : chkFun Go.Proofs.Tryz.prog 155 m155 = true := by decide +kernel
theorem k156 : chkFun Go.Proofs.Tryz.prog 156 m156 = true := by decide +kernel
theorem k157 : chkFun Go.Proofs.Tryz.prog 157 m157 = true := by decide +kernel
theorem k158 : chkFun Go.Proofs.Tryz.prog 158 m158 = true := by decide +kernel
theorem k159 : chkFun Go.Proofs.Tryz.prog 159 m159 = true := by decide +kernel
theorem k160 : chkFun Go.Proofs.Tryz.prog 160 m160 = true := by decide +kernel
theorem k161 : chkFun Go.Proofs.Tryz.prog 161 m161 = true := by decide +kernel
theorem k162 : chkFun Go.Proofs.Tryz.prog 162 m162 = true := by decide +kernel
theorem k163 : chkFun Go.Proofs.Tryz.prog 163 m163 = true := by decide +kernel
theorem k164 : chkFun Go.Proofs.Tryz.prog 164 m164 = true := by decide +kernel
theorem k165 : chkFun Go.Proofs.Tryz.prog 165 m165 = true := by decide +kernel
theorem k166 : chkFun Go.Proofs.Tryz.prog 166 m166 = true := by decide +kernel
theorem k167 : chkFun Go.Proofs.Tryz.prog 167 m167 = true := by decide +kernel
theorem k168 : chkFun Go.Proofs.Tryz.prog 168 m168 = true := by decide +kernel
theorem k169 : chkFun Go.Proofs.Tryz.prog 169 m169 = true := by decide +kernel
theorem k170 : chkFun Go.Proofs.Tryz.prog 170 m170 = true := by decide +kernel
theorem k171 : chkFun Go.Proofs.Tryz.prog 171 m171 = true := by decide +kernel
theorem k172 : chkFun Go.Proofs.Tryz.prog 172 m172 = true := by decide +kernel
theorem k173 : chkFun Go.Proofs.Tryz.prog 173 m173 = true := by decide +kernel
theorem k174 : chkFun Go.Proofs.Tryz.prog 174 m174 = true := by decide +kernel
theorem k175 : chkFun Go.Proofs.Tryz.prog 175 m175 = true := by decide +kernel
theorem k176 : chkFun Go.Proofs.Tryz.prog 176 m176 = true := by decide +kernel
theorem k177 : chkFun Go.Proofs.Tryz.prog 177 m177 = true := by decide +kernel
theorem k178 : chkFun Go.Proofs.Tryz.prog 178 m178 = true := by decide +kernel
theorem k182 : chkFun Go.Proofs.Tryz.prog 182 m182 = true := by decide +kernel
theorem k184 : chkFun Go.Proofs.Tryz.prog 184 m184 = true := by decide +kernel
end Dm.YtmgehmhebnjaaaaGreatDoor
