import Derived.Test.YtfkkdknanbddmaaZX12d
set_option linter.all false
/- A descriptor at rest: the statuses. -/
namespace Go.Sh
open Go Go.Proofs
variable [Con]
theorem stay_a1 : StayA 1 := stay_s stay_z stay_p0
theorem stay_a2 : StayA 2 := stay_s stay_a1 stay_p1
theorem stay_a3 : StayA 3 := stay_s stay_a2 stay_p2
theorem stay_a4 : StayA 4 := stay_s stay_a3 stay_p3
theorem stay_a5 : StayA 5 := stay_s stay_a4 stay_p4
theorem stay_a6 : StayA 6 := stay_s stay_a5 stay_p5
theorem stay_a7 : StayA 7 := stay_s stay_a6 stay_p6
theorem stay_a8 : StayA 8 := stay_s stay_a7 stay_p7
theorem stay_a9 : StayA 9 := stay_s stay_a8 stay_p8
theorem stay_a10 : StayA 10 := stay_s stay_a9 stay_p9
theorem stay_a11 : StayA 11 := stay_s stay_a10 stay_p10
theorem stay_a12 : StayA 12 := stay_s stay_a11 stay_p11
theorem stay_a13 : StayA 13 := stay_s stay_a12 stay_p12
theorem stay_a14 : StayA 14 := stay_s stay_a13 stay_p13
theorem stay_a15 : StayA 15 := stay_s stay_a14 stay_p14
theorem stay_a16 : StayA 16 := stay_s stay_a15 stay_p15
theorem stay_a17 : StayA 17 := stay_s stay_a16 stay_p16
theorem stay_a18 : StayA 18 := stay_s stay_a17 stay_p17
theorem stay_a19 : StayA 19 := stay_s stay_a18 stay_p18
theorem stay_a20 : StayA 20 := stay_s stay_a19 stay_p19
theorem stay_a21 : StayA 21 := stay_s stay_a20 stay_p20
theorem stay_a22 : StayA 22 := stay_s stay_a21 stay_p21
theorem stay_a23 : StayA 23 := stay_s stay_a22 stay_p22
theorem stay_a24 : StayA 24 := stay_s stay_a23 stay_p23
theorem stay_a25 : StayA 25 := stay_s stay_a24 stay_p24
theorem stay_a26 : StayA 26 := stay_s stay_a25 stay_p25
theorem stay_a27 : StayA 27 := stay_s stay_a26 stay_p26
theorem stay_a28 : StayA 28 := stay_s stay_a27 stay_p27
theorem stay_a29 : StayA 29 := stay_s stay_a28 stay_p28
theorem stay_a30 : StayA 30 := stay_s stay_a29 stay_p29
theorem stay_a31 : StayA 31 := stay_s stay_a30 stay_p30
theorem stay_a32 : StayA 32 := stay_s stay_a31 stay_p31
theorem stay_a33 : StayA 33 := stay_s stay_a32 stay_p32
theorem stay_a34 : StayA 34 := stay_s stay_a33 stay_p33
theorem stay_a35 : StayA 35 := stay_s stay_a34 stay_p34
theorem stay_a36 : StayA 36 := stay_s stay_a35 stay_p35
theorem stay_a37 : StayA 37 := stay_s stay_a36 stay_p36
theorem stay_a38 : StayA 38 := stay_s stay_a37 stay_p37
theorem stay_a39 : StayA 39 := stay_s stay_a38 stay_p38
theorem stay_a40 : StayA 40 := stay_s stay_a39 stay_p39
theorem stay_a41 : StayA 41 := stay_s stay_a40 stay_p40
theorem stay_a42 : StayA 42 := stay_s stay_a41 stay_p41
theorem stay_a43 : StayA 43 := stay_s stay_a42 stay_p42
theorem stay_a44 : StayA 44 := stay_s stay_a43 stay_p43
theorem stay_a45 : StayA 45 := stay_s stay_a44 stay_p44
theorem stay_a46 : StayA 46 := stay_s stay_a45 stay_p45
theorem stay_a47 : StayA 47 := stay_s stay_a46 stay_p46
theorem stay_a48 : StayA 48 := stay_s stay_a47 stay_p47
theorem stay_a49 : StayA 49 := stay_s stay_a48 stay_p48
theorem stay_a50 : StayA 50 := stay_s stay_a49 stay_p49
theorem stay_a51 : StayA 51 := stay_s stay_a50 stay_p50
theorem stay_a52 : StayA 52 := stay_s stay_a51 stay_p51
theorem stay_a53 : StayA 53 := stay_s stay_a52 stay_p52
theorem stay_a54 : StayA 54 := stay_s stay_a53 stay_p53
theorem stay_a55 : StayA 55 := stay_s stay_a54 stay_p54
theorem stay_a56 : StayA 56 := stay_s stay_a55 stay_p55
theorem stay_a57 : StayA 57 := stay_s stay_a56 stay_p56
theorem stay_a58 : StayA 58 := stay_s stay_a57 stay_p57
theorem stay_a59 : StayA 59 := stay_s stay_a58 stay_p58
theorem stay_a60 : StayA 60 := stay_s stay_a59 stay_p59
theorem stay_a61 : StayA 61 := stay_s stay_a60 stay_p60
theorem stay_a62 : StayA 62 := stay_s stay_a61 stay_p61
theorem stay_a63 : StayA 63 := stay_s stay_a62 stay_p62
theorem stay_a64 : StayA 64 := stay_s stay_a63 stay_p63
theorem stay_a65 : StayA 65 := stay_s stay_a64 stay_p64
theorem stay_a66 : StayA 66 := stay_s stay_a65 stay_p65
theorem stay_a67 : StayA 67 := stay_s stay_a66 stay_p66
theorem stay_a68 : StayA 68 := stay_s stay_a67 stay_p67
theorem stay_a69 : StayA 69 := stay_s stay_a68 stay_p68
theorem stay_a70 : StayA 70 := stay_s stay_a69 stay_p69
theorem stay_a71 : StayA 71 := stay_s stay_a70 stay_p70
theorem stay_a72 : StayA 72 := stay_s stay_a71 stay_p71
theorem stay_a73 : StayA 73 := stay_s stay_a72 stay_p72
theorem stay_a74 : StayA 74 := stay_s stay_a73 stay_p73
theorem stay_a75 : StayA 75 := stay_s stay_a74 stay_p74
theorem stay_a76 : StayA 76 := stay_s stay_a75 stay_p75
theorem stay_a77 : StayA 77 := stay_s stay_a76 stay_p76
theorem stay_a78 : StayA 78 := stay_s stay_a77 stay_p77
theorem stay_a79 : StayA 79 := stay_s stay_a78 stay_p78
theorem stay_a80 : StayA 80 := stay_s stay_a79 stay_p79
theorem stay_a81 : StayA 81 := stay_s stay_a80 stay_p80
theorem stay_a82 : StayA 82 := stay_s stay_a81 stay_p81
theorem stay_a83 : StayA 83 := stay_s stay_a82 stay_p82
theorem stay_a84 : StayA 84 := stay_s stay_a83 stay_p83
theorem stay_a85 : StayA 85 := stay_s stay_a84 stay_p84
theorem stay_a86 : StayA 86 := stay_s stay_a85 stay_p85
theorem stay_a87 : StayA 87 := stay_s stay_a86 stay_p86
theorem stay_a88 : StayA 88 := stay_s stay_a87 stay_p87
theorem stay_a89 : StayA 89 := stay_s stay_a88 stay_p88
theorem stay_a90 : StayA 90 := stay_s stay_a89 stay_p89
theorem stay_a91 : StayA 91 := stay_s stay_a90 stay_p90
theorem stay_a92 : StayA 92 := stay_s stay_a91 stay_p91
theorem stay_a93 : StayA 93 := stay_s stay_a92 stay_p92
theorem stay_a94 : StayA 94 := stay_s stay_a93 stay_p93
theorem stay_a95 : StayA 95 := stay_s stay_a94 stay_p94
theorem stay_a96 : StayA 96 := stay_s stay_a95 stay_p95
theorem stay_a97 : StayA 97 := stay_s stay_a96 stay_p96
theorem stay_a98 : StayA 98 := stay_s stay_a97 stay_p97
theorem stay_a99 : StayA 99 := stay_s stay_a98 stay_p98
theorem stay_a100 : StayA 100 := stay_s stay_a99 stay_p99
theorem stay_a101 : StayA 101 := stay_s stay_a100 stay_p100
theorem stay_a102 : StayA 102 := stay_s stay_a101 stay_p101
theorem stay_a103 : StayA 103 := stay_s stay_a102 stay_p102
theorem stay_a104 : StayA 104 := stay_s stay_a103 stay_p103
theorem stay_a105 : StayA 105 := stay_s stay_a104 stay_p104
theorem stay_a106 : StayA 106 := stay_s stay_a105 stay_p105
theorem stay_a107 : StayA 107 := stay_s stay_a106 stay_p106
theorem stay_a108 : StayA 108 := stay_s stay_a107 stay_p107
theorem stay_a109 : StayA 109 := stay_s stay_a108 stay_p108
theorem stay_a110 : StayA 110 := stay_s stay_a109 stay_p109
theorem stay_a111 : StayA 111 := stay_s stay_a110 stay_p110
theorem stay_a112 : StayA 112 := stay_s stay_a111 stay_p111
theorem stay_a113 : StayA 113 := stay_s stay_a112 stay_p112
theorem stay_a114 : StayA 114 := stay_s stay_a113 stay_p113
theorem stay_a115 : StayA 115 := stay_s stay_a114 stay_p114
theorem stay_a116 : StayA 116 := stay_s stay_a115 stay_p115
theorem stay_a117 : StayA 117 := stay_s stay_a116 stay_p116
theorem stay_a118 : StayA 118 := stay_s stay_a117 stay_p117
theorem stay_a119 : StayA 119 := stay_s stay_a118 stay_p118
theorem stay_a120 : StayA 120 := stay_s stay_a119 stay_p119
theorem stay_a121 : StayA 121 := stay_s stay_a120 stay_p120
theorem stay_a122 : StayA 122 := stay_s stay_a121 stay_p121
theorem stay_a123 : StayA 123 := stay_s stay_a122 stay_p122
theorem stay_a124 : StayA 124 := stay_s stay_a123 stay_p123
theorem stay_a125 : StayA 125 := stay_s stay_a124 stay_p124
theorem stay_a126 : StayA 126 := stay_s stay_a125 stay_p125
theorem stay_a127 : StayA 127 := stay_s stay_a126 stay_p126
theorem stay_a128 : StayA 128 := stay_s stay_a127 stay_p127
theorem stay_a129 : StayA 129 := stay_s stay_a128 stay_p128
theorem stay_a130 : StayA 130 := stay_s stay_a129 stay_p129
theorem stay_a131 : StayA 131 := stay_s stay_a130 stay_p130
theorem stay_a132 : StayA 132 := stay_s stay_a131 stay_p131
theorem stay_a133 : StayA 133 := stay_s stay_a132 stay_p132
theorem stay_a134 : StayA 134 := stay_s stay_a133 stay_p133
theorem stay_a135 : StayA 135 := stay_s stay_a134 stay_p134
theorem stay_a136 : StayA 136 := stay_s stay_a135 stay_p135
theorem stay_a137 : StayA 137 := stay_s stay_a136 stay_p136
theorem stay_a138 : StayA 138 := stay_s stay_a137 stay_p137
theorem stay_a139 : StayA 139 := stay_s stay_a138 stay_p138
theorem stay_a140 : StayA 140 := stay_s stay_a139 stay_p139
theorem stay_a141 : StayA 141 := stay_s stay_a140 stay_p140
theorem stay_a142 : StayA 142 := stay_s stay_a141 stay_p141
theorem stay_a143 : StayA 143 := stay_s stay_a142 stay_p142
theorem stay_a144 : StayA 144 := stay_s stay_a143 stay_p143
theorem stay_a145 : StayA 145 := stay_s stay_a144 stay_p144
theorem stay_a146 : StayA 146 := stay_s stay_a145 stay_p145
theorem stay_a147 : StayA 147 := stay_s stay_a146 stay_p146
theorem stay_a148 : StayA 148 := stay_s stay_a147 stay_p147
theorem stay_a149 : StayA 149 := stay_s stay_a148 stay_p148
theorem stay_a150 : StayA 150 := stay_s stay_a149 stay_p149
theorem stay_a151 : StayA 151 := stay_s stay_a150 stay_p150
theorem stay_a152 : StayA 152 := stay_s stay_a151 stay_p151
theorem stay_a153 : StayA 153 := stay_s stay_a152 stay_p152
theorem stay_a154 : StayA 154 := stay_s stay_a153 stay_p153
theorem stay_a155 : StayA 155 := stay_s stay_a154 stay_p154
theorem stay_a156 : StayA 156 := stay_s stay_a155 stay_p155
theorem stay_a157 : StayA 157 := stay_s stay_a156 stay_p156
theorem stay_a158 : StayA 158 := stay_s stay_a157 stay_p157
theorem stay_a159 : StayA 159 := stay_s stay_a158 stay_p158
theorem stay_a160 : StayA 160 := stay_s stay_a159 stay_p159
theorem stay_a161 : StayA 161 := stay_s stay_a160 stay_p160
theorem stay_a162 : StayA 162 := stay_s stay_a161 stay_p161
theorem stay_a163 : StayA 163 := stay_s stay_a162 stay_p162
theorem stay_a164 : StayA 164 := stay_s stay_a163 stay_p163
theorem stay_a165 : StayA 165 := stay_s stay_a164 stay_p164
theorem stay_a166 : StayA 166 := stay_s stay_a165 stay_p165
theorem stay_a167 : StayA 167 := stay_s stay_a166 stay_p166
theorem stay_a168 : StayA 168 := stay_s stay_a167 stay_p167
theorem stay_a169 : StayA 169 := stay_s stay_a168 stay_p168
theorem stay_a170 : StayA 170 := stay_s stay_a169 stay_p169
theorem stay_a171 : StayA 171 := stay_s stay_a170 stay_p170
theorem stay_a172 : StayA 172 := stay_s stay_a171 stay_p171
theorem stay_a173 : StayA 173 := stay_s stay_a172 stay_p172
theorem stay_a174 : StayA 174 := stay_s stay_a173 stay_p173
theorem stay_a175 : StayA 175 := stay_s stay_a174 stay_p174
theorem stay_a176 : StayA 176 := stay_s stay_a175 stay_p175
theorem stay_a177 : StayA 177 := stay_s stay_a176 stay_p176
theorem stay_a178 : StayA 178 := stay_s stay_a177 stay_p177
theorem stay_a179 : StayA 179 := stay_s stay_a178 stay_p178
theorem stay_a180 : StayA 180 := stay_s stay_a179 stay_p179
theorem stay_a181 : StayA 181 := stay_s stay_a180 stay_p180
theorem stay_a182 : StayA 182 := stay_s stay_a181 stay_p181
theorem stay_a183 : StayA 183 := stay_s stay_a182 stay_p182
theorem stay_a184 : StayA 184 := stay_s stay_a183 stay_p183
theorem stay_a185 : StayA 185 := stay_s stay_a184 stay_p184
theorem stay_a186 : StayA 186 := stay_s stay_a185 stay_p185
theorem stay_a187 : StayA 187 := stay_s stay_a186 stay_p186
theorem stay_a188 : StayA 188 := stay_s stay_a187 stay_p187
theorem stay_a189 : StayA 189 := stay_s stay_a188 stay_p188
theorem stay_a190 : StayA 190 := stay_s stay_a189 stay_p189
theorem stay_a191 : StayA 191 := stay_s stay_a190 stay_p190
theorem stay_a192 : StayA 192 := stay_s stay_a191 stay_p191
theorem stay_a193 : StayA 193 := stay_s stay_a192 stay_p192
theorem stay_a194 : StayA 194 := stay_s stay_a193 stay_p193
theorem stay_a195 : StayA 195 := stay_s stay_a194 stay_p194
theorem stay_a196 : StayA 196 := stay_s stay_a195 stay_p195
theorem stay_a197 : StayA 197 := stay_s stay_a196 stay_p196
theorem stay_a198 : StayA 198 := stay_s stay_a197 stay_p197
theorem stay_a199 : StayA 199 := stay_s stay_a198 stay_p198
theorem stay_a200 : StayA 200 := stay_s stay_a199 stay_p199
theorem stay_a201 : StayA 201 := stay_s stay_a200 stay_p200
theorem stay_a202 : StayA 202 := stay_s stay_a201 stay_p201
theorem stay_a203 : StayA 203 := stay_s stay_a202 stay_p202
theorem stay_a204 : StayA 204 := stay_s stay_a203 stay_p203
theorem stay_a205 : StayA 205 := stay_s stay_a204 stay_p204
theorem stay_a206 : StayA 206 := stay_s stay_a205 stay_p205
theorem stay_a207 : StayA 207 := stay_s stay_a206 stay_p206
theorem stay_a208 : StayA 208 := stay_s stay_a207 stay_p207
theorem stay_a209 : StayA 209 := stay_s stay_a208 stay_p208
theorem stay_a210 : StayA 210 := stay_s stay_a209 stay_p209
theorem stay_a211 : StayA 211 := stay_s stay_a210 stay_p210
theorem stay_a212 : StayA 212 := stay_s stay_a211 stay_p211
theorem stay_a213 : StayA 213 := stay_s stay_a212 stay_p212
theorem stay_a214 : StayA 214 := stay_s stay_a213 stay_p213
theorem stay_a215 : StayA 215 := stay_s stay_a214 stay_p214
theorem stay_a216 : StayA 216 := stay_s stay_a215 stay_p215
theorem stay_a217 : StayA 217 := stay_s stay_a216 stay_p216
theorem stay_a218 : StayA 218 := stay_s stay_a217 stay_p217
theorem stay_a219 : StayA 219 := stay_s stay_a218 stay_p218
theorem stay_a220 : StayA 220 := stay_s stay_a219 stay_p219
theorem stay_a221 : StayA 221 := stay_s stay_a220 stay_p220
theorem stay_a222 : StayA 222 := stay_s stay_a221 stay_p221
theorem stay_a223 : StayA 223 := stay_s stay_a222 stay_p222
theorem stay_a224 : StayA 224 := stay_s stay_a223 stay_p223
theorem stay_a225 : StayA 225 := stay_s stay_a224 stay_p224
theorem stay_a226 : StayA 226 := stay_s stay_a225 stay_p225
theorem stay_a227 : StayA 227 := stay_s stay_a226 stay_p226
theorem stay_a228 : StayA 228 := stay_s stay_a227 stay_p227
theorem stay_a229 : StayA 229 := stay_s stay_a228 stay_p228
theorem stay_a230 : StayA 230 := stay_s stay_a229 stay_p229
theorem stay_a231 : StayA 231 := stay_s stay_a230 stay_p230
theorem stay_a232 : StayA 232 := stay_s stay_a231 stay_p231
theorem stay_a233 : StayA 233 := stay_s stay_a232 stay_p232
theorem stay_a234 : StayA 234 := stay_s stay_a233 stay_p233
theorem stay_a235 : StayA 235 := stay_s stay_a234 stay_p234
theorem stay_a236 : StayA 236 := stay_s stay_a235 stay_p235
theorem stay_a237 : StayA 237 := stay_s stay_a236 stay_p236
theorem stay_a238 : StayA 238 := stay_s stay_a237 stay_p237
theorem stay_a239 : StayA 239 := stay_s stay_a238 stay_p238
theorem stay_a240 : StayA 240 := stay_s stay_a239 stay_p239
theorem stay_a241 : StayA 241 := stay_s stay_a240 stay_p240
theorem stay_a242 : StayA 242 := stay_s stay_a241 stay_p241
theorem stay_a243 : StayA 243 := stay_s stay_a242 stay_p242
theorem stay_a244 : StayA 244 := stay_s stay_a243 stay_p243
theorem stay_a245 : StayA 245 := stay_s stay_a244 stay_p244
theorem stay_a246 : StayA 246 := stay_s stay_a245 stay_p245
theorem stay_a247 : StayA 247 := stay_s stay_a246 stay_p246
theorem stay_a248 : StayA 248 := stay_s stay_a247 stay_p247
theorem stay_a249 : StayA 249 := stay_s stay_a248 stay_p248
theorem stay_a250 : StayA 250 := stay_s stay_a249 stay_p249
theorem stay_a251 : StayA 251 := stay_s stay_a250 stay_p250
theorem stay_a252 : StayA 252 := stay_s stay_a251 stay_p251
theorem stay_a253 : StayA 253 := stay_s stay_a252 stay_p252
theorem stay_a254 : StayA 254 := stay_s stay_a253 stay_p253
theorem stay_a255 : StayA 255 := stay_s stay_a254 stay_p254
theorem stay_a256 : StayA 256 := stay_s stay_a255 stay_p255
end Go.Sh

/- A descriptor at rest: the law. -/
namespace Go.Sh
open Go Go.Proofs
variable [Con]
theorem cut_le (x : Int) {a w : Int} (h : 2 ^ w.toNat ≤ (1000001 : Int)) : 0 ≤ cutI x a w ∧ cutI x a w ≤ 1000000 := by
  have := cutI_in (x := x) (a := a) (w := w)
  omega
theorem stays_vc (t n u : Int) (ws : List Int) (st S : Int) (ht : 0 ≤ t ∧ t ≤ 255) (hn : 0 ≤ n ∧ n ≤ 255) (hu : 0 ≤ u ∧ u ≤ 255) (hst : 0 ≤ st ∧ st ≤ 255) (hws : okW ws) (hS : S = 0 ∨ S = 1 ∨ S = 5 ∨ S = 6 ∨ S = 7) : staysVC t n u ws st S := by
  unfold staysVC
  have h1 := thr_in ht
  have h2 := nod_in hn
  have hl := memW_length (thr t) (nod n) ws
  have hW : okW (memW (thr t) (nod n) ws) := okW_memW hws
  have e1 : W u = u := W_id (by omega)
  have e2 : W st = st := W_id (by omega)
  have hU : 0 ≤ Int.tmod u (thr t) ∧ Int.tmod u (thr t) < thr t := by
    rw [Int.tmod_eq_emod_of_nonneg hu.1]
    exact ⟨Int.emod_nonneg _ (by omega), Int.emod_lt_of_pos _ (by omega)⟩
  have hV : 0 ≤ Int.tmod st 5 ∧ Int.tmod st 5 < 5 := by
    rw [Int.tmod_eq_emod_of_nonneg hst.1]
    omega
  rw [e1, e2]
  generalize Int.tmod u (thr t) = U at hU ⊢
  generalize Int.tmod st 5 = V at hV ⊢
  generalize memW (thr t) (nod n) ws = MW at hl hW ⊢
  have hA : 0 ≤ 2 * nod n + 5 + 2 * thr t + 3 * U + 2 ∧ 2 * nod n + 5 + 2 * thr t + 3 * U + 2 < MW.length := by rw [hl]; omega
  have hN : MW.length ≤ 4294967296 := by rw [hl]; omega
  generalize 2 * nod n + 5 + 2 * thr t + 3 * U + 2 = AD at hA ⊢
  have hpk := okW_peek hW AD
  generalize peek MW AD = PK at hpk ⊢
  have hd : dOk (cutI PK 0 12 % 4096) (cutI PK 12 9 % 512) (cutI PK 21 18 % 262144) (cutI PK 39 9 % 512) (S % 8) (cutI PK 52 10 % 1024) = true := by
    rw [dOk_true]; omega
  generalize hX : putI MW AD (dPutV (cutI PK 0 12 % 4096) (cutI PK 12 9 % 512) (cutI PK 21 18 % 262144) (cutI PK 39 9 % 512) (ieq (cutI PK 48 1) 1) (S % 8) (cutI PK 52 10 % 1024)) = M2
  have hM : M2.length = MW.length := by rw [← hX, putI_length]
  have hst2 : cutI (peek M2 AD) 49 3 = S := by
    rw [← hX, peek_putI_eq hA, dcut_e hd]
    omega
  have hsame : sameB M2 M2 = true := sameB_true.2 rfl
  have c1 := cut_le PK (a := 0) (w := 12) (by decide)
  have c2 := cut_le PK (a := 12) (w := 9) (by decide)
  have c3 := cut_le PK (a := 21) (w := 18) (by decide)
  have c4 := cut_le PK (a := 39) (w := 9) (by decide)
  have c5 := cut_le PK (a := 52) (w := 10) (by decide)
  simp only [ieq_self, cond_true, hst2, hsame]
  refine ⟨trivial, cond_go (fun _ => trivial) (fun _ => ?_)⟩
  refine ⟨⟨ht, hn⟩, by omega, ⟨by omega, by omega, by omega⟩, ⟨trivial, trivial⟩, hpk, by decide, by omega, ⟨⟨by omega, by omega, by omega⟩, trivial⟩, ⟨c1, c2, c3, c4, by omega, c5⟩, ⟨⟨trivial, by omega⟩, trivial⟩, ⟨trivial, by omega⟩, by omega, ⟨trivial, trivial, trivial, by omega, by omega, by omega, by omega, by omega⟩, ⟨⟨⟨trivial, trivial⟩, by omega⟩, trivial⟩, trivial⟩
theorem selS_in (k : Nat) : selS k = 0 ∨ selS k = 1 ∨ selS k = 5 ∨ selS k = 6 ∨ selS k = 7 := by
  unfold selS
  have h := Nat.mod_lt k (show 5 > 0 by decide)
  generalize k % 5 = j at h ⊢
  match j, h with
  | 0, _ => decide
  | 1, _ => decide
  | 2, _ => decide
  | 3, _ => decide
  | 4, _ => decide
theorem stays_ok (t n u st : Int) (ws : List Int) (ht : 0 ≤ t ∧ t ≤ 255) (hn : 0 ≤ n ∧ n ≤ 255) (hu : 0 ≤ u ∧ u ≤ 255) (hst : 0 ≤ st ∧ st ≤ 255) (hws : okW ws) :
    CallOk (obI tbl) Try.prog 4 [.agg [.int .u8 t, .int .u8 n, .iview (some .u64) ws], .int .u8 u, .int .u8 st] ([] : Heap Ob) (fun v _ => v = .bool true) := by
  obtain ⟨k, rfl⟩ : ∃ k : Nat, st = (k : Int) := ⟨st.toNat, by omega⟩
  exact stay_a256 k (by omega) t n u ws (stays_vc t n u ws k (selS k) ht hn hu hst hws (selS_in k))
end Go.Sh

