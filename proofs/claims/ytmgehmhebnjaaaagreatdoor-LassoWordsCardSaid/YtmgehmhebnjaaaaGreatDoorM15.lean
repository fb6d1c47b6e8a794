/- Lemmas that lead to the statement: The examples' run, anywhere. -/
import Derived.Test.YtmgehmhebnjaaaaGreatDoorM14
import Derived.Test.YtmgehmhebnjaaaaGreatDoorM5
import Derived.Test.YtmgehmhebnjaaaaGreatDoorM13
set_option linter.all false
set_option maxRecDepth 1000000
namespace Dm.YtmgehmhebnjaaaaGreatDoor
open Go
theorem a3 : okA m3.body = true := by decide +kernel
theorem a4 : okA m4.body = true := by decide +kernel
theorem a5 : okA m5.body = true := by decide +kernel
theorem a6 : okA m6.body = true := by decide +kernel
theorem a7 : okA m7.body = true := by decide +kernel
theorem a8 : okA m8.body = true := by decide +kernel
theorem a9 : okA m9.body = true := by decide +kernel
theorem a10 : okA m10.body = true := by decide +kernel
theorem a11 : okA m11.body = true := by decide +kernel
theorem a12 : okA m12.body = true := by decide +kernel
theorem a13 : okA m13.body = true := by decide +kernel
theorem a14 : okA m14.body = true := by decide +kernel
theorem a15 : okA m15.body = true := by decide +kernel
theorem a16 : okA m16.body = true := by decide +kernel
theorem a17 : okA m17.body = true := by decide +kernel
theorem a18 : okA m18.body = true := by decide +kernel
theorem a19 : okA m19.body = true := by decide +kernel
theorem a20 : okA m20.body = true := by decide +kernel
theorem a21 : okA m21.body = true := by decide +kernel
theorem a22 : okA m22.body = true := by decide +kernel
theorem a23 : okA m23.body = true := by decide +kernel
theorem a24 : okA m24.body = true := by decide +kernel
theorem a25 : okA m25.body = true := by decide +kernel
theorem a26 : okA m26.body = true := by decide +kernel
theorem a27 : okA m27.body = true := by decide +kernel
theorem a28 : okA m28.body = true := by decide +kernel
theorem a29 : okA m29.body = true := by decide +kernel
theorem a30 : okA m30.body = true := by decide +kernel
theorem a31 : okA m31.body = true := by decide +kernel
theorem a32 : okA m32.body = true := by decide +kernel
theorem a33 : okA m33.body = true := by decide +kernel
theorem a34 : okA m34.body = true := by decide +kernel
theorem a35 : okA m35.body = true := by decide +kernel
theorem a36 : okA m36.body = true := by decide +kernel
theorem a37 : okA m37.body = true := by decide +kernel
theorem a38 : okA m38.body = true := by decide +kernel
theorem a39 : okA m39.body = true := by decide +kernel
theorem a40 : okA m40.body = true := by decide +kernel
theorem a41 : okA m41.body = true := by decide +kernel
theorem a42 : okA m42.body = true := by decide +kernel
theorem a43 : okA m43.body = true := by decide +kernel
theorem a44 : okA m44.body = true := by decide +kernel
theorem a45 : okA m45.body = true := by decide +kernel
theorem a46 : okA m46.body = true := by decide +kernel
theorem a47 : okA m47.body = true := by decide +kernel
theorem a48 : okA m48.body = true := by decide +kernel
theorem a49 : okA m49.body = true := by decide +kernel
theorem a50 : okA m50.body = true := by decide +kernel
theorem a51 : okA m51.body = true := by decide +kernel
theorem a52 : okA m52.body = true := by decide +kernel
theorem a53 : okA m53.body = true := by decide +kernel
theorem a54 : okA m54.body = true := by decide +kernel
theorem a55 : okA m55.body = true := by decide +kernel
theorem a56 : okA m56.body = true := by decide +kernel
theorem a57 : okA m57.body = true := by decide +kernel
theorem a58 : okA m58.body = true := by decide +kernel
theorem a59 : okA m59.body = true := by decide +kernel
theorem a60 : okA m60.body = true := by decide +kernel
theorem a61 : okA m61.body = true := by decide +kernel
theorem a62 : okA m62.body = true := by decide +kernel
theorem a63 : okA m63.body = true := by decide +kernel
theorem a64 : okA m64.body = true := by decide +kernel
theorem a65 : okA m65.body = true := by decide +kernel
theorem a66 : okA m66.body = true := by decide +kernel
theorem a67 : okA m67.body = true := by decide +kernel
theorem a68 : okA m68.body = true := by decide +kernel
theorem a69 : okA m69.body = true := by decide +kernel
theorem a70 : okA m70.body = true := by decide +kernel
theorem a71 : okA m71.body = true := by decide +kernel
theorem a72 : okA m72.body = true := by decide +kernel
theorem a73 : okA m73.body = true := by decide +kernel
theorem a74 : okA m74.body = true := by decide +kernel
theorem a75 : okA m75.body = true := by decide +kernel
theorem a76 : okA m76.body = true := by decide +kernel
theorem a77 : okA m77.body = true := by decide +kernel
theorem a78 : okA m78.body = true := by decide +kernel
theorem a79 : okA m79.body = true := by decide +kernel
theorem a80 : okA m80.body = true := by decide +kernel
theorem a81 : okA m81.body = true := by decide +kernel
theorem a82 : okA m82.body = true := by decide +kernel
theorem a83 : okA m83.body = true := by decide +kernel
theorem a84 : okA m84.body = true := by decide +kernel
theorem a85 : okA m85.body = true := by decide +kernel
theorem a86 : okA m86.body = true := by decide +kernel
theorem a87 : okA m87.body = true := by decide +kernel
theorem a88 : okA m88.body = true := by decide +kernel
theorem a89 : okA m89.body = true := by decide +kernel
theorem a90 : okA m90.body = true := by decide +kernel
theorem a91 : okA m91.body = true := by decide +kernel
theorem a92 : okA m92.body = true := by decide +kernel
theorem a93 : okA m93.body = true := by decide +kernel
theorem a94 : okA m94.body = true := by decide +kernel
theorem a95 : okA m95.body = true := by decide +kernel
theorem a96 : okA m96.body = true := by decide +kernel
theorem a97 : okA m97.body = true := by decide +kernel
theorem a98 : okA m98.body = true := by decide +kernel
theorem a99 : okA m99.body = true := by decide +kernel
theorem a100 : okA m100.body = true := by decide +kernel
theorem a101 : okA m101.body = true := by decide +kernel
theorem a102 : okA m102.body = true := by decide +kernel
theorem a103 : okA m103.body = true := by decide +kernel
theorem a104 : okA m104.body = true := by decide +kernel
theorem a105 : okA m105.body = true := by decide +kernel
theorem a106 : okA m106.body = true := by decide +kernel
theorem a107 : okA m107.body = true := by decide +kernel
theorem a108 : okA m108.body = true := by decide +kernel
theorem a109 : okA m109.body = true := by decide +kernel
theorem a110 : okA m110.body = true := by decide +kernel
theorem a111 : okA m111.body = true := by decide +kernel
theorem a112 : okA m112.body = true := by decide +kernel
theorem a113 : okA m113.body = true := by decide +kernel
theorem a114 : okA m114.body = true := by decide +kernel
theorem a115 : okA m115.body = true := by decide +kernel
theorem a116 : okA m116.body = true := by decide +kernel
theorem a117 : okA m117.body = true := by decide +kernel
theorem a118 : okA m118.body = true := by decide +kernel
theorem a119 : okA m119.body = true := by decide +kernel
theorem a120 : okA m120.body = true := by decide +kernel
theorem a121 : okA m121.body = true := by decide +kernel
theorem a122 : okA m122.body = true := by decide +kernel
theorem a123 : okA m123.body = true := by decide +kernel
theorem a124 : okA m124.body = true := by decide +kernel
theorem a125 : okA m125.body = true := by decide +kernel
theorem a126 : okA m126.body = true := by decide +kernel
theorem a127 : okA m127.body = true := by decide +kernel
theorem a128 : okA m128.body = true := by decide +kernel
theorem a129 : okA m129.body = true := by decide +kernel
theorem a130 : okA m130.body = true := by decide +kernel
theorem a131 : okA m131.body = true := by decide +kernel
theorem a132 : okA m132.body = true := by decide +kernel
theorem a133 : okA m133.body = true := by decide +kernel
theorem a134 : okA m134.body = true := by decide +kernel
theorem a135 : okA m135.body = true := by decide +kernel
theorem a136 : okA m136.body = true := by decide +kernel
theorem a137 : okA m137.body = true := by decide +kernel
theorem a138 : okA m138.body = true := by decide +kernel
theorem a139 : okA m139.body = true := by decide +kernel
theorem a140 : okA m140.body = true := by decide +kernel
theorem a141 : okA m141.body = true := by decide +kernel
theorem a142 : okA m142.body = true := by decide +kernel
theorem a143 : okA m143.body = true := by decide +kernel
theorem a144 : okA m144.body = true := by decide +kernel
theorem a145 : okA m145.body = true := by decide +kernel
theorem a146 : okA m146.body = true := by decide +kernel
theorem a147 : okA m147.body = true := by decide +kernel
theorem a148 : okA m148.body = true := by decide +kernel
theorem a149 : okA m149.body = true := by decide +kernel
theorem a150 : okA m150.body = true := by decide +kernel
theorem a151 : okA m151.body = true := by decide +kernel
theorem a152 : okA m152.body = true := by decide +kernel
theorem a153 : okA m153.body = true := by decide +kernel
theorem a154 : okA m154.body = true := by decide +kernel
theorem a155 : okA m155.body = true := by decide +kernel
theorem a156 : okA m156.body = true := by decide +kernel
theorem a157 : okA m157.body = true := by decide +kernel
theorem a158 : okA m158.body = true := by decide +kernel
theorem a159 : okA m159.body = true := by decide +kernel
theorem a160 : okA m160.body = true := by decide +kernel
theorem a161 : okA m161.body = true := by decide +kernel
theorem a162 : okA m162.body = true := by decide +kernel
theorem a163 : okA m163.body = true := by decide +kernel
theorem a164 : okA m164.body = true := by decide +kernel
theorem a165 : okA m165.body = true := by decide +kernel
theorem a166 : okA m166.body = true := by decide +kernel
theorem a167 : okA m167.body = true := by decide +kernel
theorem a168 : okA m168.body = true := by decide +kernel
theorem a169 : okA m169.body = true := by decide +kernel
theorem a170 : okA m170.body = true := by decide +kernel
theorem a171 : okA m171.body = true := by decide +kernel
theorem a172 : okA m172.body = true := by decide +kernel
theorem a173 : okA m173.body = true := by decide +kernel
theorem a174 : okA m174.body = true := by decide +kernel
theorem a175 : okA m175.body = true := by decide +kernel
theorem a176 : okA m176.body = true := by decide +kernel
theorem a177 : okA m177.body = true := by decide +kernel
theorem a178 : okA m178.body = true := by decide +kernel
theorem a182 : okA m182.body = true := by decide +kernel
theorem a184 : okA m184.body = true := by decide +kernel
theorem tab_A : ∀ f mf, tab f = some mf → okA mf.body = true := by
  intro f mf h
  unfold tab at h
  split at h
  · cases h; exact a3
  · cases h; exact a4
  · cases h; exact a5
  · cases h; exact a6
  · cases h; exact a7
  · cases h; exact a8
  · cases h; exact a9
  · cases h; exact a10
  · cases h; exact a11
  · cases h; exact a12
  · cases h; exact a13
  · cases h; exact a14
  · cases h; exact a15
  · cases h; exact a16
  · cases h; exact a17
  · cases h; exact a18
  · cases h; exact a19
  · cases h; exact a20
  · cases h; exact a21
  · cases h; exact a22
  · cases h; exact a23
  · cases h; exact a24
  · cases h; exact a25
  · cases h; exact a26
  · cases h; exact a27
  · cases h; exact a28
  · cases h; exact a29
  · cases h; exact a30
  · cases h; exact a31
  · cases h; exact a32
  · cases h; exact a33
  · cases h; exact a34
  · cases h; exact a35
  · cases h; exact a36
  · cases h; exact a37
  · cases h; exact a38
  · cases h; exact a39
  · cases h; exact a40
  · cases h; exact a41
  · cases h; exact a42
  · cases h; exact a43
  · cases h; exact a44
  · cases h; exact a45
  · cases h; exact a46
  · cases h; exact a47
  · cases h; exact a48
  · cases h; exact a49
  · cases h; exact a50
  · cases h; exact a51
  · cases h; exact a52
  · cases h; exact a53
  · cases h; exact a54
  · cases h; exact a55
  · cases h; exact a56
  · cases h; exact a57
  · cases h; exact a58
  · cases h; exact a59
  · cases h; exact a60
  · cases h; exact a61
  · cases h; exact a62
  · cases h; exact a63
  · cases h; exact a64
  · cases h; exact a65
  · cases h; exact a66
  · cases h; exact a67
  · cases h; exact a68
  · cases h; exact a69
  · cases h; exact a70
  · cases h; exact a71
  · cases h; exact a72
  · cases h; exact a73
  · cases h; exact a74
  · cases h; exact a75
  · cases h; exact a76
  · cases h; exact a77
  · cases h; exact a78
  · cases h; exact a79
  · cases h; exact a80
  · cases h; exact a81
  · cases h; exact a82
  · cases h; exact a83
  · cases h; exact a84
  · cases h; exact a85
  · cases h; exact a86
  · cases h; exact a87
  · cases h; exact a88
  · cases h; exact a89
  · cases h; exact a90
  · cases h; exact a91
  · cases h; exact a92
  · cases h; exact a93
  · cases h; exact a94
  · cases h; exact a95
  · cases h; exact a96
  · cases h; exact a97
  · cases h; exact a98
  · cases h; exact a99
  · cases h; exact a100
  · cases h; exact a101
  · cases h; exact a102
  · cases h; exact a103
  · cases h; exact a104
  · cases h; exact a105
  · cases h; exact a106
  · cases h; exact a107
  · cases h; exact a108
  · cases h; exact a109
  · cases h; exact a110
  · cases h; exact a111
  · cases h; exact a112
  · cases h; exact a113
  · cases h; exact a114
  · cases h; exact a115
  · cases h; exact a116
  · cases h; exact a117
  · cases h; exact a118
  · cases h; exact a119
  · cases h; exact a120
  · cases h; exact a121
  · cases h; exact a122
  · cases h; exact a123
  · cases h; exact a124
  · cases h; exact a125
  · cases h; exact a126
  · cases h; exact a127
  · cases h; exact a128
  · cases h; exact a129
  · cases h; exact a130
  · cases h; exact a131
  · cases h; exact a132
  · cases h; exact a133
  · cases h; exact a134
  · cases h; exact a135
  · cases h; exact a136
  · cases h; exact a137
  · cases h; exact a138
  · cases h; exact a139
  · cases h; exact a140
  · cases h; exact a141
  · cases h; exact a142
  · cases h; exact a143
  · cases h; exact a144
  · cases h; exact a145
  · cases h; exact a146
  · cases h; exact a147
  · cases h; exact a148
  · cases h; exact a149
  · cases h; exact a150
  · cases h; exact a151
  · cases h; exact a152
  · cases h; exact a153
  · cases h; exact a154
  · cases h; exact a155
  · cases h; exact a156
  · cases h; exact a157
  · cases h; exact a158
  · cases h; exact a159
  · cases h; exact a160
  · cases h; exact a161
  · cases h; exact a162
  · cases h; exact a163
  · cases h; exact a164
  · cases h; exact a165
  · cases h; exact a166
  · cases h; exact a167
  · cases h; exact a168
  · cases h; exact a169
  · cases h; exact a170
  · cases h; exact a171
  · cases h; exact a172
  · cases h; exact a173
  · cases h; exact a174
  · cases h; exact a175
  · cases h; exact a176
  · cases h; exact a177
  · cases h; exact a178
  · cases h; exact a182
  · cases h; exact a184
  · cases h
theorem awake_c : Closed tab nopr 12 [] (PV.v (Value.bool (true))) := by
  have h := awake_run
  unfold isT at h
  split at h
  · rename_i H e
    exact Closed.run tab_A e rfl
  · cases h
end Dm.YtmgehmhebnjaaaaGreatDoor
