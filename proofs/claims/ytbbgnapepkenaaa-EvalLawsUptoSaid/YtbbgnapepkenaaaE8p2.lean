import Derived.Test.YtbbgnapepkenaaaE0
import Derived.Test.YtbbgnapepkenaaaE1
import Derived.Test.YtbbgnapepkenaaaE4
import Derived.Test.YtbbgnapepkenaaaE7
import Derived.Test.YtbbgnapepkenaaaE8p0
namespace Go.Proofs.Ytbbgnapepkenaaa.E
open Go.Proofs.YtbbgnapepkenaaaW.PrintMore Go.RowKit Go.Proofs.YtbbgnapepkenaaaW.PrintWords Go.Proofs.YtbbgnapepkenaaaW.PrintLast Go.Proofs.YtbbgnapepkenaaaW.PrintMore
attribute [local go_sem] max2_int min2_int max_two min_two max_three min_three max_four min_four   -- for this text's walks alone
set_option linter.unusedVariables false
set_option linter.unusedSimpArgs false
set_option maxHeartbeats 8000000 in
set_option maxRecDepth 100000 in
theorem verbatimlaw20_EvalLaws_calls_part1 : verbatimlaw20_EvalLaws_calls_part.2.1 := by
  intro k a0_0 P0_1_ A0_1 c0_1 l0_1 P0_2_ A0_2 c0_2 l0_2 a1_0 P1_1_ A1_1 c1_1 l1_1 P1_2_ A1_2 c1_2 l1_2 a2 a3 r w hs0_1 hs0_2 hs1_1 hs1_2 hu40 HG t185 A5 z1_0 gb183 w7 GW183 GE183 gb184 w8 GW184 GE184 NB183_184 NB184_183 w9 HO0_1 HO0_2 HO1_1 HO1_2 z1_1 z1_2 z1_3 z1_4 z1_5 z1_6 z1_7 z1_8 z1_9 z1_10 z1_11 z1_12 z1_13 z1_14 z1_15 z1_16 z1_17 z1_18 z1_19 z1_20 z1_21 z1_22 z1_23 z1_24 z1_25 z1_26 z1_27 z1_28 z1_29 z1_30 z1_31 z1_32 z1_33 z1_34 z1_35 z1_36 z1_37 z1_38 z1_39 z1_40 z1_41 z1_42 z1_43 z1_44 z1_45 z1_46 z1_47 z1_48 z1_49 z1_50 z1_51 z1_52 z1_53 z1_54 z1_55 z1_56 z1_57 z1_58 z1_59 z1_60 z1_61 z1_62 z1_63 z1_64 z1_65 z1_66 z1_67 z1_68 z1_69 z1_70 z1_71 z1_72 z1_73 z1_74 z1_75 z1_76 z1_77 z1_78 z1_79 z1_80 z1_81 z1_82 z1_83 z1_84 z1_85 z1_86 z1_87 z1_88 z1_89 z1_90 z1_91 z1_92 z1_93 z1_94 z1_95 z1_96 z1_97 z1_98 z1_99 z1_100 z1_101 z1_102 z1_103 z1_104 z1_105 z1_106 z1_107 z1_108 z1_109 z1_110 z1_111 z1_112 z1_113 z1_114 z1_115 z1_116 z1_117 z1_118 z1_119 z1_120 kj5 HJ5 t190 A48 t191 A49 y192 Ny192 t196 t197 t200 A50 t203 t204 t207 A51 y210 Ny210 y214 Ny214 y218 Ny218 y222 Ny222 HC52 hnb53 hnc53 hcz54_0 hcz54_1 hcz54_2 hfz54_0 hfz54_1 hfz54_2 w55 hcz56_0 hcz56_1 hcz56_2 hfz56_0 hfz56_1 hfz56_2 w57 hcz58_0 hcz58_1 hcz58_2 hfz58_0 hfz58_1 hfz58_2 hcz59_0 hcz59_1 hcz59_2 hfz59_0 hfz59_1 hfz59_2 w60 Ao62 co62 gb195 w63 GW195 GE195 NB183_195 NB195_183 NB184_195 NB195_184 hnb64 hnc64 hnb65 hnc65 hcz66_0 hcz66_1 hcz66_2 hfz66_0 hfz66_1 hfz66_2 w67 HT_ HW_ w68 z1_121 v198 v201 v205 v208 gb213 w79 hS_ GW213 GE213 NB183_213 NB213_183 NB184_213 NB213_184 NB195_213 NB213_195 z1_122 Ao80 co80 hs81 hfs81 hns81_0 hns81_1 hns81_2 hms81_0 hms81_1 hms81_2 hs82 hfs82 hns82_0 hns82_1 hns82_2 hms82_0 hms82_1 hms82_2 hs83 hfs83 hns83_0 hns83_1 hns83_2 hms83_0 hms83_1 hms83_2 hHeld w84 Ao86 co86 gb217 w87 GW217 GE217 NB183_217 NB217_183 NB184_217 NB217_184 NB195_217 NB217_195 NB213_217 NB217_213 hnb88 hnc88 hnb89 hnc89 hnb90 hnc90 hnb91 hnc91 hcz92_0 hcz92_1 hcz92_2 hfz92_0 hfz92_1 hfz92_2 w93 Ao95 co95 gb221 w96 GW221 GE221 NB183_221 NB221_183 NB184_221 NB221_184 NB195_221 NB221_195 NB213_221 NB221_213 NB217_221 NB221_217 hnb97 hnc97 hnb98 hnc98 hnb99 hnc99 hnb100 hnc100 hnb101 hnc101 hcz102_0 hcz102_1 hcz102_2 hfz102_0 hfz102_1 hfz102_2 w103 Ao105 co105 gb225 w106 GW225 GE225 NB183_225 NB225_183 NB184_225 NB225_184 NB195_225 NB225_195 NB213_225 NB225_213 NB217_225 NB225_217 NB221_225 NB225_221 hnb107 hnc107 hnb108 hnc108 hnb109 hnc109 hnb110 hnc110 hnb111 hnc111 hnb112 hnc112 hcz113_0 hcz113_1 hcz113_2 hfz113_0 hfz113_1 hfz113_2 w114 HO_184001 HO_184002 HO_185001 HO_185002 HO194 HO212 HO216 HO220 HO224 BK183 BK184 BK195 BK213 BK217 BK221 BK225 HB z1_123 z1_124 z1_125 z1_126 wc u17 u18 u19 u20 u21 u22 u23 u24 u25 u26 u27 u28 u29 u30 u31 u32 u33 u34 u35 u36 u37 u38 u39 u40 u41 u42 u43 u44 u45 u46 u47 u48 u49 u50 u51 u52 u53 u54 u55 u56 u57 u58 u59 u60 u61 u62 u63 u64 u65 u66 u67 u68 u69 u70 u71 u72 u73 u74 u75 u76 u77 u78 u79 u80 u81 u82 u83 u84 u85 u86 u87 u88 u89 u90 u91 u92 u93 u94 u95 u96 u97 u98 u99 u100 u101 u102 u103 u104 u105 u106 u107 u108 u109 u110 u111 u112 u113 u114 u115 u116 u117 u118 u119 u120 u121 u122 u123 u124 u125 u126 u127 u128 u129 u130 u131 u132 u133 hcut
  clear HC52
  try clear c1
  try clear c2
  try clear p2
  try clear c3
  try clear c8
  try clear c9
  try clear c10
  try clear c11
  try clear c12
  try clear c13
  try clear c14
  try clear c15
  try clear c16
  try clear c17
  try clear c18
  try clear c19
  try clear c20
  try clear c21
  try clear c25
  try clear c28
  try clear c88
  try clear c89
  try clear c90
  try clear c91
  try clear c97
  try clear c98
  try clear c99
  try clear c100
  try clear c101
  try clear c107
  try clear c108
  try clear c109
  try clear c110
  try clear c111
  try clear c112
  try clear c117
  try clear c117b0
  try clear c117b1
  try clear c117b2
  try clear c118
  try clear c119
  try clear c120
  try clear c121
  try clear c122
  try clear c123
  try clear c130
  try clear c131
  try clear c131b0
  try clear c131b1
  try clear c131b2
  try clear c132
  try clear c133
  try clear c134
  try clear c135
  try clear c136
  try clear c137
  try clear c143
  try clear c144
  try clear c145
  try clear c146
  try clear c147
  try clear c151
  try clear c152
  try clear c153
  try clear c154
  try clear c155
  try clear c156
  try clear c162
  try clear c163
  try clear c164
  try clear c165
  try clear c166
  try clear c169
  try clear c170
  try clear c171
  try clear c172
  try clear c175
  try clear c175b0
  try clear c175b1
  try clear c175b2
  try clear c176
  try clear c177
  try clear c178
  try clear c179
  try clear c180
  try clear c181
  try clear c187
  try clear c188
  try clear c189
  try clear c190
  try clear c191
  try clear c195
  try clear c196
  try clear c197
  try clear c198
  try clear c199
  try clear c200
  try clear c206
  try clear c207
  try clear c208
  try clear c209
  try clear c210
  try clear c213
  try clear c214
  try clear c215
  try clear c216
  try clear hcz102_0
  try clear hcz102_1
  try clear hcz102_2
  try clear hcz113_0
  try clear hcz113_1
  try clear hcz113_2
  try clear hcz124_0
  try clear hcz124_1
  try clear hcz124_2
  try clear hcz138_0
  try clear hcz138_1
  try clear hcz138_2
  try clear hcz148_0
  try clear hcz148_1
  try clear hcz148_2
  try clear hcz157_0
  try clear hcz157_1
  try clear hcz157_2
  try clear hcz167_0
  try clear hcz167_1
  try clear hcz167_2
  try clear hcz173_0
  try clear hcz173_1
  try clear hcz173_2
  try clear hcz182_0
  try clear hcz182_1
  try clear hcz182_2
  try clear hcz192_0
  try clear hcz192_1
  try clear hcz192_2
  try clear hcz201_0
  try clear hcz201_1
  try clear hcz201_2
  try clear hcz211_0
  try clear hcz211_1
  try clear hcz211_2
  try clear hcz217_0
  try clear hcz217_1
  try clear hcz217_2
  try clear hcz92_0
  try clear hcz92_1
  try clear hcz92_2
  try clear hfz102_0
  try clear hfz102_1
  try clear hfz102_2
  try clear hfz113_0
  try clear hfz113_1
  try clear hfz113_2
  try clear hfz124_0
  try clear hfz124_1
  try clear hfz124_2
  try clear hfz138_0
  try clear hfz138_1
  try clear hfz138_2
  try clear hfz148_0
  try clear hfz148_1
  try clear hfz148_2
  try clear hfz157_0
  try clear hfz157_1
  try clear hfz157_2
  try clear hfz167_0
  try clear hfz167_1
  try clear hfz167_2
  try clear hfz173_0
  try clear hfz173_1
  try clear hfz173_2
  try clear hfz182_0
  try clear hfz182_1
  try clear hfz182_2
  try clear hfz192_0
  try clear hfz192_1
  try clear hfz192_2
  try clear hfz201_0
  try clear hfz201_1
  try clear hfz201_2
  try clear hfz211_0
  try clear hfz211_1
  try clear hfz211_2
  try clear hfz217_0
  try clear hfz217_1
  try clear hfz217_2
  try clear hfz92_0
  try clear hfz92_1
  try clear hfz92_2
  obtain ⟨kq, x90_51, rfl, HA, HJ51, HO_184001, HO_184002, HO_185001, HO_185002, HO_196002, HO_214002, HO_218001, HO_222001, HO_226001, BK183, BK184, BK195, BK213, BK217, BK221, BK225, HB⟩ := hcut
  cases kq with
  | zero => exact absurd HA.out (by simp [verbatimlaw20_EvalLaws.j1])
  | succ kj51 =>
   have H := HA.out
   clear HA
   simp only [verbatimlaw20_EvalLaws.j1] at H
   by_cases c219 : x90_51 = true
   ·subst c219
    have H1 : (some false) = some r := by rw [if_pos rfl] at H; exact H
    clear H
    have H := H1
    clear H1
    obtain rfl := Option.some.inj H
    go_wp2
    go_ret
    exact ⟨by first | rfl | (simp [errW_none, errW_some] <;> rfl) | (simp [*, errW_none, errW_some] <;> rfl), by repeat (first | (with_reducible first | exact HB.out | apply below_alloc | apply pw_below_drewN | apply below_drew1 | refine below_set ?_ (Aside0.out (by assumption))) | exact HB.out)⟩
   ·replace c219 := Bool.eq_false_iff.mpr c219
    subst c219
    have H1 : ((eval_Match.f kj51 3 y222 ([] : List (S40)) a3).bind fun t237 => ((eval_Match.f kj51 1 y218 ([] : List (S40)) a3).bind fun t238 => (if (t237 != t238) = true then (verbatimlaw20_EvalLaws.j2 kj51 a2 a3 t185 true 4 y192 5 y210 2 y214 1 y218) else ((eval_Match.f kj51 2 y214 ([] : List (S40)) a3).bind fun t239 => (if t239 = true then ((eval_Match.f kj51 1 y218 ([] : List (S40)) a3).bind fun t240 => (verbatimlaw20_EvalLaws.j2 kj51 a2 a3 t185 (!t240) 4 y192 5 y210 2 y214 1 y218)) else (verbatimlaw20_EvalLaws.j2 kj51 a2 a3 t185 false 4 y192 5 y210 2 y214 1 y218)))))) = some r := by rw [if_neg (show ¬ (false = true) by decide)] at H; exact H
    clear H
    have H := H1
    clear H1
    have HC220 := am H
    clear H
    go_upto_region 13 with (fail)
    go_cut [108] (fun v108 wc => ∃ (kq : Nat) (x108_219 : Bool), v108 = .bool x108_219 ∧ Aside0 (verbatimlaw20_EvalLaws.j2 kq a2 a3 t185 x108_219 4 y192 5 y210 2 y214 1 y218 = some r) ∧ Aside0 (kq ≤ kj51) ∧ Aside0 (Kd.V Kd.string 9 wc w.heap.size (fun k_ => ((P0_1_ k_ ∨ P0_2_ k_ ∨ P1_1_ k_ ∨ P1_2_ k_) ∨ w.heap.size ≤ k_) ∧ some k_ ≠ ((.slice Ao62 y192.length co62) : Value).ownBlock ∧ some k_ ≠ ((.slice Ao80 y210.length co80) : Value).ownBlock ∧ some k_ ≠ ((.slice Ao86 y214.length co86) : Value).ownBlock ∧ some k_ ≠ ((.slice Ao95 y218.length co95) : Value).ownBlock ∧ some k_ ≠ ((.slice Ao105 y222.length co105) : Value).ownBlock ∧ k_ ≠ gb183 ∧ k_ ≠ gb184 ∧ k_ ≠ gb195 ∧ k_ ≠ gb213 ∧ k_ ≠ gb217 ∧ k_ ≠ gb221 ∧ k_ ≠ gb225) (.slice A0_1 l0_1.length c0_1) l0_1) ∧ Aside0 (Kd.V k40 40 wc w.heap.size (fun k_ => ((P0_1_ k_ ∨ P0_2_ k_ ∨ P1_1_ k_ ∨ P1_2_ k_) ∨ w.heap.size ≤ k_) ∧ some k_ ≠ ((.slice Ao62 y192.length co62) : Value).ownBlock ∧ some k_ ≠ ((.slice Ao80 y210.length co80) : Value).ownBlock ∧ some k_ ≠ ((.slice Ao86 y214.length co86) : Value).ownBlock ∧ some k_ ≠ ((.slice Ao95 y218.length co95) : Value).ownBlock ∧ some k_ ≠ ((.slice Ao105 y222.length co105) : Value).ownBlock ∧ k_ ≠ gb183 ∧ k_ ≠ gb184 ∧ k_ ≠ gb195 ∧ k_ ≠ gb213 ∧ k_ ≠ gb217 ∧ k_ ≠ gb221 ∧ k_ ≠ gb225) (.slice A0_2 l0_2.length c0_2) l0_2) ∧ Aside0 (Kd.V Kd.string 9 wc w.heap.size (fun k_ => ((P0_1_ k_ ∨ P0_2_ k_ ∨ P1_1_ k_ ∨ P1_2_ k_) ∨ w.heap.size ≤ k_) ∧ some k_ ≠ ((.slice Ao62 y192.length co62) : Value).ownBlock ∧ some k_ ≠ ((.slice Ao80 y210.length co80) : Value).ownBlock ∧ some k_ ≠ ((.slice Ao86 y214.length co86) : Value).ownBlock ∧ some k_ ≠ ((.slice Ao95 y218.length co95) : Value).ownBlock ∧ some k_ ≠ ((.slice Ao105 y222.length co105) : Value).ownBlock ∧ k_ ≠ gb183 ∧ k_ ≠ gb184 ∧ k_ ≠ gb195 ∧ k_ ≠ gb213 ∧ k_ ≠ gb217 ∧ k_ ≠ gb221 ∧ k_ ≠ gb225) (.slice A1_1 l1_1.length c1_1) l1_1) ∧ Aside0 (Kd.V k40 40 wc w.heap.size (fun k_ => ((P0_1_ k_ ∨ P0_2_ k_ ∨ P1_1_ k_ ∨ P1_2_ k_) ∨ w.heap.size ≤ k_) ∧ some k_ ≠ ((.slice Ao62 y192.length co62) : Value).ownBlock ∧ some k_ ≠ ((.slice Ao80 y210.length co80) : Value).ownBlock ∧ some k_ ≠ ((.slice Ao86 y214.length co86) : Value).ownBlock ∧ some k_ ≠ ((.slice Ao95 y218.length co95) : Value).ownBlock ∧ some k_ ≠ ((.slice Ao105 y222.length co105) : Value).ownBlock ∧ k_ ≠ gb183 ∧ k_ ≠ gb184 ∧ k_ ≠ gb195 ∧ k_ ≠ gb213 ∧ k_ ≠ gb217 ∧ k_ ≠ gb221 ∧ k_ ≠ gb225) (.slice A1_2 l1_2.length c1_2) l1_2) ∧ Aside0 (Kd.N k40 40 wc w.heap.size (fun k_ => ((P0_1_ k_ ∨ P0_2_ k_ ∨ P1_1_ k_ ∨ P1_2_ k_) ∨ w.heap.size ≤ k_) ∧ some k_ ≠ ((.slice Ao80 y210.length co80) : Value).ownBlock ∧ some k_ ≠ ((.slice Ao86 y214.length co86) : Value).ownBlock ∧ some k_ ≠ ((.slice Ao95 y218.length co95) : Value).ownBlock ∧ some k_ ≠ ((.slice Ao105 y222.length co105) : Value).ownBlock ∧ k_ ≠ gb183 ∧ k_ ≠ gb184 ∧ k_ ≠ gb195 ∧ k_ ≠ gb213 ∧ k_ ≠ gb217 ∧ k_ ≠ gb221 ∧ k_ ≠ gb225) (.slice Ao62 y192.length co62) y192) ∧ Aside0 (Kd.N k40 40 wc w.heap.size (fun k_ => ((P0_1_ k_ ∨ P0_2_ k_ ∨ P1_1_ k_ ∨ P1_2_ k_) ∨ w.heap.size ≤ k_) ∧ some k_ ≠ ((.slice Ao62 y192.length co62) : Value).ownBlock ∧ some k_ ≠ ((.slice Ao86 y214.length co86) : Value).ownBlock ∧ some k_ ≠ ((.slice Ao95 y218.length co95) : Value).ownBlock ∧ some k_ ≠ ((.slice Ao105 y222.length co105) : Value).ownBlock ∧ k_ ≠ gb183 ∧ k_ ≠ gb184 ∧ k_ ≠ gb195 ∧ k_ ≠ gb213 ∧ k_ ≠ gb217 ∧ k_ ≠ gb221 ∧ k_ ≠ gb225) (.slice Ao80 y210.length co80) y210) ∧ Aside0 (Kd.R Kd.string 9 wc w.heap.size (fun k_ => (w.heap.size ≤ k_) ∧ some k_ ≠ ((.slice Ao95 y218.length co95) : Value).ownBlock ∧ some k_ ≠ ((.slice Ao105 y222.length co105) : Value).ownBlock) (.slice Ao86 y214.length co86) y214) ∧ Aside0 (Kd.R Kd.string 9 wc w.heap.size (fun k_ => (w.heap.size ≤ k_) ∧ some k_ ≠ ((.slice Ao86 y214.length co86) : Value).ownBlock ∧ some k_ ≠ ((.slice Ao105 y222.length co105) : Value).ownBlock) (.slice Ao95 y218.length co95) y218) ∧ Aside0 (Kd.R Kd.string 9 wc w.heap.size (fun k_ => (w.heap.size ≤ k_) ∧ some k_ ≠ ((.slice Ao86 y214.length co86) : Value).ownBlock ∧ some k_ ≠ ((.slice Ao95 y218.length co95) : Value).ownBlock) (.slice Ao105 y222.length co105) y222) ∧ Aside0 (wc.heap[gb183]? = some (.cells #[.int .i64 a0_0, (.slice A0_1 l0_1.length c0_1), (.slice A0_2 l0_2.length c0_2)] 40 (0, 0))) ∧ Aside0 (wc.heap[gb184]? = some (.cells #[.int .i64 a1_0, (.slice A1_1 l1_1.length c1_1), (.slice A1_2 l1_2.length c1_2)] 40 (0, 0))) ∧ Aside0 (wc.heap[gb195]? = some (.cells #[.int .i64 4, (.slice none 0 0), (.slice Ao62 y192.length co62)] 40 (0, 0))) ∧ Aside0 (wc.heap[gb213]? = some (.cells #[.int .i64 5, (.slice none 0 0), (.slice Ao80 y210.length co80)] 40 (0, 0))) ∧ Aside0 (wc.heap[gb217]? = some (.cells #[.int .i64 2, (.slice Ao86 y214.length co86), (.slice none 0 0)] 40 (0, 0))) ∧ Aside0 (wc.heap[gb221]? = some (.cells #[.int .i64 1, (.slice Ao95 y218.length co95), (.slice none 0 0)] 40 (0, 0))) ∧ Aside0 (wc.heap[gb225]? = some (.cells #[.int .i64 3, (.slice Ao105 y222.length co105), (.slice none 0 0)] 40 (0, 0))) ∧ Aside0 (Below w.heap.size w wc))
    case first =>
     have H := HC220.out
     clear HC220
     replace H := Option.bind_eq_some_iff.mp H
     obtain ⟨t237, A2210, H⟩ := H
     replace H : ((eval_Match.f kj51 1 y218 ([] : List (S40)) a3).bind fun t238 => (if (t237 != t238) = true then (verbatimlaw20_EvalLaws.j2 kj51 a2 a3 t185 true 4 y192 5 y210 2 y214 1 y218) else ((eval_Match.f kj51 2 y214 ([] : List (S40)) a3).bind fun t239 => (if t239 = true then ((eval_Match.f kj51 1 y218 ([] : List (S40)) a3).bind fun t240 => (verbatimlaw20_EvalLaws.j2 kj51 a2 a3 t185 (!t240) 4 y192 5 y210 2 y214 1 y218)) else (verbatimlaw20_EvalLaws.j2 kj51 a2 a3 t185 false 4 y192 5 y210 2 y214 1 y218))))) = some r := H
     have A221 := am A2210
     clear A2210
     replace H := Option.bind_eq_some_iff.mp H
     obtain ⟨t238, A2220, H⟩ := H
     replace H : (if (t237 != t238) = true then (verbatimlaw20_EvalLaws.j2 kj51 a2 a3 t185 true 4 y192 5 y210 2 y214 1 y218) else ((eval_Match.f kj51 2 y214 ([] : List (S40)) a3).bind fun t239 => (if t239 = true then ((eval_Match.f kj51 1 y218 ([] : List (S40)) a3).bind fun t240 => (verbatimlaw20_EvalLaws.j2 kj51 a2 a3 t185 (!t240) 4 y192 5 y210 2 y214 1 y218)) else (verbatimlaw20_EvalLaws.j2 kj51 a2 a3 t185 false 4 y192 5 y210 2 y214 1 y218)))) = some r := H
     have A222 := am A2220
     clear A2220
     by_cases c223 : (t237 != t238) = true
     ·rw [if_pos c223] at H
      have c223b0 : (t237 != t238) = true := c223
      (try (have c223b1 : decide (t237 = t238) = false := by simpa using c223))
      (try (have c223b2 : (t237 == t238) = false := by simpa using c223))
      (try (have c223b3 : ¬ (t237 = t238) := by simpa using c223))
      clear c223
      (first | rw [c223b0] | (simp only [i64_w, i32_w]; rw [c223b0]) | skip)
      have H' := am H
      clear H
      try go_wp2
      replace HO_184001 := am (Kd.V_drew HO_184001.out)
      replace HO_184002 := am (Kd.V_drew HO_184002.out)
      replace HO_185001 := am (Kd.V_drew HO_185001.out)
      replace HO_185002 := am (Kd.V_drew HO_185002.out)
      replace HO_196002 := am (Kd.N_drew HO_196002.out)
      replace HO_214002 := am (Kd.N_drew HO_214002.out)
      replace HO_218001 := am (Kd.R_drew HO_218001.out)
      replace HO_222001 := am (Kd.R_drew HO_222001.out)
      replace HO_226001 := am (Kd.R_drew HO_226001.out)
      replace BK183 := am (blk_drew BK183.out)
      replace BK184 := am (blk_drew BK184.out)
      replace BK195 := am (blk_drew BK195.out)
      replace BK213 := am (blk_drew BK213.out)
      replace BK217 := am (blk_drew BK217.out)
      replace BK221 := am (blk_drew BK221.out)
      replace BK225 := am (blk_drew BK225.out)
      replace HB := am (below_drew1 HB.out)
      refine start_ (n := 18) (S := fun w' => w'.cell? ⟨gb225, 0, none⟩ = some (.int .i64 3) ∧ w'.cell? ⟨gb225, 1, none⟩ = some (.slice Ao105 y222.length co105) ∧ w'.cell? ⟨gb225, 2, none⟩ = some (.slice none 0 0) ∧ w'.cell? ⟨gb221, 0, none⟩ = some (.int .i64 1) ∧ w'.cell? ⟨gb221, 1, none⟩ = some (.slice Ao95 y218.length co95) ∧ w'.cell? ⟨gb221, 2, none⟩ = some (.slice none 0 0)) (ds := []) #[false, false, false, false, false, false, false, false, false, false, false, false, false, false, false, false, false, false] (by kernel_rfl) rfl rfl ⟨(blk_cell BK225.out 0).trans rfl, (blk_cell BK225.out 1).trans rfl, (blk_cell BK225.out 2).trans rfl, (blk_cell BK221.out 0).trans rfl, (blk_cell BK221.out 1).trans rfl, (blk_cell BK221.out 2).trans rfl⟩ (fun hHeld => ?_); refine with_tabW verbatimlaw20_EvalLaws.tab13 verbatimlaw20_EvalLaws.bits13 (fun HT_ HW_ => ?_)
      generalize wc.drew = w224 at HO_184001 HO_184002 HO_185001 HO_185002 HO_196002 HO_214002 HO_218001 HO_222001 HO_226001 BK183 BK184 BK195 BK213 BK217 BK221 BK225 HB hHeld ⊢
      refine pure_ (i := 1) (N := some 92) (v := ?_) (a' := ?_) #[false, true, false, false, false, false, false, false, false, false, false, false, false, false, false, false, false, false] rfl rfl (any_of HT_.out (by kernel_rfl)) (fun _ _ _ h => h) (Or.inl ⟨by rfl, ?_⟩) ?_ ?_
      rotate_left
      ·intro w'
       go_simp
       with_reducible rfl
      rotate_left
      ·simp only [Act.put, List.setIfInBounds_toArray, List.set_cons_zero, List.set_cons_succ, i64_w, i32_w]
       rfl
      refine pure_ (i := 4) (N := some 95) (v := ?_) (a' := ?_) #[false, true, false, false, true, false, false, false, false, false, false, false, false, false, false, false, false, false] rfl rfl (any_of HT_.out (by kernel_rfl)) (fun _ _ _ h => h) (Or.inl ⟨by rfl, ?_⟩) ?_ ?_
      rotate_left
      ·intro w'
       go_simp
       with_reducible rfl
      rotate_left
      ·simp only [Act.put, List.setIfInBounds_toArray, List.set_cons_zero, List.set_cons_succ, i64_w, i32_w]
       rfl
      refine take_ (i := 0) (N := some 91) (v := ?_) (a' := ?_) #[true, true, false, false, true, false, false, false, false, false, false, false, false, false, false, false, false, false] rfl rfl (take_ofW HT_.out HW_.out (by kernel_rfl)) (fun _ _ _ h => h) (Or.inl ⟨by rfl, ?_⟩) hHeld ?_ ?_
      rotate_left
      ·rintro w' ⟨s0, s1, s2, s3, s4, s5⟩
       go_simp
       with_reducible rfl
      rotate_left
      ·simp only [Act.put, List.setIfInBounds_toArray, List.set_cons_zero, List.set_cons_succ, i64_w, i32_w]
       rfl
      refine take_ (i := 3) (N := some 94) (v := ?_) (a' := ?_) #[true, true, false, true, true, false, false, false, false, false, false, false, false, false, false, false, false, false] rfl rfl (take_ofW HT_.out HW_.out (by kernel_rfl)) (fun _ _ _ h => h) (Or.inl ⟨by rfl, ?_⟩) hHeld ?_ ?_
      rotate_left
      ·rintro w' ⟨s0, s1, s2, s3, s4, s5⟩
       go_simp
       with_reducible rfl
      rotate_left
      ·simp only [Act.put, List.setIfInBounds_toArray, List.set_cons_zero, List.set_cons_succ, i64_w, i32_w]
       rfl
      refine one_ (i := 2) (N := some 93) #[true, true, true, true, true, false, false, false, false, false, false, false, false, false, false, false, false, false] rfl rfl (one_of HT_.out (by kernel_rfl)) (by decide) (fun K hK => ?_)
      refine goes_ Try.func25 (by kernel_rfl) rfl #[.agg #[.int .i64 3, .slice Ao105 y222.length co105, .slice none 0 0], .string a3] (by rfl) rfl rfl (by (try simp only [List.map_toArray, List.map_cons, List.map_nil]); first | done | rfl | (simp only [List.length_drop, List.length_take]; rfl)) ?_
      refine (eval_Match.calls kj51 3 _ _ y222 _ _ ([] : List (S40)) a3 t237 _ ?side1 ?side2 ?side3 ?side4 ?side5 A221.out).mono ?_
      (case side1 => first | exact GlobOk.below HG.out (by repeat first | exact lU HB.out | refine below_set ?_ (Aside0.out (by assumption)) | apply below_alloc | apply pw_below_drewN | apply below_drew1) | (repeat (first | exact HG.out | (with_reducible refine GlobOk.alloc ?_ _) | (with_reducible refine GlobOk.drewN ?_ _) | (with_reducible refine GlobOk.drew ?_))))
      (case side2 => repeat (first | exact (Kd.R_reads' HO_226001.out).2.2 | (with_reducible refine Kd.C_alloc ?_ _) | (with_reducible refine Kd.C_drewN ?_ _) | (with_reducible refine Kd.C_drew ?_)))
      (case side3 => exact (Kd.R_reads' HO_226001.out).2.1)
      (case side4 => exact Kd.C_nil _ _)
      (case side5 => exact Nat.le_refl _)
      rintro e w225 ⟨rfl, hb⟩
      refine ⟨_, rfl, ?_⟩
      replace HO_184001 := am (Kd.V_below (vU HO_184001.out) hb)
      replace HO_184002 := am (Kd.V_below (vU HO_184002.out) hb)
      replace HO_185001 := am (Kd.V_below (vU HO_185001.out) hb)
      replace HO_185002 := am (Kd.V_below (vU HO_185002.out) hb)
      replace HO_196002 := am (Kd.N_below (nU HO_196002.out) hb)
      replace HO_214002 := am (Kd.N_below (nU HO_214002.out) hb)
      replace HO_218001 := am (Kd.R_below (rU HO_218001.out) hb)
      replace HO_222001 := am (Kd.R_below (rU HO_222001.out) hb)
      replace HO_226001 := am (Kd.R_below (rU HO_226001.out) hb)
      replace BK183 := am (blk_below (bU BK183.out) hb)
      replace BK184 := am (blk_below (bU BK184.out) hb)
      replace BK195 := am (blk_below (bU BK195.out) hb)
      replace BK213 := am (blk_below (bU BK213.out) hb)
      replace BK217 := am (blk_below (bU BK217.out) hb)
      replace BK221 := am (blk_below (bU BK221.out) hb)
      replace BK225 := am (blk_below (bU BK225.out) hb)
      replace HB := am (below_step (by repeat first | exact lU HB.out | refine below_set ?_ (Aside0.out (by assumption)) | apply below_alloc | apply pw_below_drewN | apply below_drew1) hb)
      (try clear hb)
      (try clear hb2)
      (try clear hk)
      (try clear hi)
      refine hK.out _ _ ⟨(blk_cell BK225.out 0).trans rfl, (blk_cell BK225.out 1).trans rfl, (blk_cell BK225.out 2).trans rfl, (blk_cell BK221.out 0).trans rfl, (blk_cell BK221.out 1).trans rfl, (blk_cell BK221.out 2).trans rfl⟩ (fun hHeld => ?_)
      clear hK K
      refine norm_ (a' := ?_) ?_ ?_
      rotate_left
      ·show Act.put _ (some 93) _ = _
       simp only [Act.put, List.setIfInBounds_toArray, List.set_cons_zero, List.set_cons_succ, i64_w, i32_w]
       rfl
      refine one_ (i := 5) (N := some 96) #[true, true, true, true, true, true, false, false, false, false, false, false, false, false, false, false, false, false] rfl rfl (one_of HT_.out (by kernel_rfl)) (by decide) (fun K hK => ?_)
      refine goes_ Try.func25 (by kernel_rfl) rfl #[.agg #[.int .i64 1, .slice Ao95 y218.length co95, .slice none 0 0], .string a3] (by rfl) rfl rfl (by (try simp only [List.map_toArray, List.map_cons, List.map_nil]); first | done | rfl | (simp only [List.length_drop, List.length_take]; rfl)) ?_
      refine (eval_Match.calls kj51 1 _ _ y218 _ _ ([] : List (S40)) a3 t238 _ ?side1 ?side2 ?side3 ?side4 ?side5 A222.out).mono ?_
      (case side1 => first | exact GlobOk.below HG.out (by repeat first | exact lU HB.out | refine below_set ?_ (Aside0.out (by assumption)) | apply below_alloc | apply pw_below_drewN | apply below_drew1) | (repeat (first | exact HG.out | (with_reducible refine GlobOk.alloc ?_ _) | (with_reducible refine GlobOk.drewN ?_ _) | (with_reducible refine GlobOk.drew ?_))))
      (case side2 => repeat (first | exact (Kd.R_reads' HO_222001.out).2.2 | (with_reducible refine Kd.C_alloc ?_ _) | (with_reducible refine Kd.C_drewN ?_ _) | (with_reducible refine Kd.C_drew ?_)))
      (case side3 => exact (Kd.R_reads' HO_222001.out).2.1)
      (case side4 => exact Kd.C_nil _ _)
      (case side5 => exact Nat.le_refl _)
      rintro e w226 ⟨rfl, hb⟩
      refine ⟨_, rfl, ?_⟩
      replace HO_184001 := am (Kd.V_below (vU HO_184001.out) hb)
      replace HO_184002 := am (Kd.V_below (vU HO_184002.out) hb)
      replace HO_185001 := am (Kd.V_below (vU HO_185001.out) hb)
      replace HO_185002 := am (Kd.V_below (vU HO_185002.out) hb)
      replace HO_196002 := am (Kd.N_below (nU HO_196002.out) hb)
      replace HO_214002 := am (Kd.N_below (nU HO_214002.out) hb)
      replace HO_218001 := am (Kd.R_below (rU HO_218001.out) hb)
      replace HO_222001 := am (Kd.R_below (rU HO_222001.out) hb)
      replace HO_226001 := am (Kd.R_below (rU HO_226001.out) hb)
      replace BK183 := am (blk_below (bU BK183.out) hb)
      replace BK184 := am (blk_below (bU BK184.out) hb)
      replace BK195 := am (blk_below (bU BK195.out) hb)
      replace BK213 := am (blk_below (bU BK213.out) hb)
      replace BK217 := am (blk_below (bU BK217.out) hb)
      replace BK221 := am (blk_below (bU BK221.out) hb)
      replace BK225 := am (blk_below (bU BK225.out) hb)
      replace HB := am (below_step (by repeat first | exact lU HB.out | refine below_set ?_ (Aside0.out (by assumption)) | apply below_alloc | apply pw_below_drewN | apply below_drew1) hb)
      (try clear hb)
      (try clear hb2)
      (try clear hk)
      (try clear hi)
      refine hK.out _ _ ⟨(blk_cell BK225.out 0).trans rfl, (blk_cell BK225.out 1).trans rfl, (blk_cell BK225.out 2).trans rfl, (blk_cell BK221.out 0).trans rfl, (blk_cell BK221.out 1).trans rfl, (blk_cell BK221.out 2).trans rfl⟩ (fun hHeld => ?_)
      clear hK K
      refine norm_ (a' := ?_) ?_ ?_
      rotate_left
      ·show Act.put _ (some 96) _ = _
       simp only [Act.put, List.setIfInBounds_toArray, List.set_cons_zero, List.set_cons_succ, i64_w, i32_w]
       rfl
      refine pure_ (i := 6) (N := some 97) (v := ?_) (a' := ?_) #[true, true, true, true, true, true, true, false, false, false, false, false, false, false, false, false, false, false] rfl rfl (any_of HT_.out (by kernel_rfl)) (fun _ _ _ h => h) (Or.inl ⟨by rfl, ?_⟩) ?_ ?_
      rotate_left
      ·intro w'
       go_simp
       with_reducible rfl
      rotate_left
      ·simp only [Act.put, List.setIfInBounds_toArray, List.set_cons_zero, List.set_cons_succ, i64_w, i32_w]
       rfl
      refine pure_ (i := 7) (N := some 98) (v := ?_) (a' := ?_) #[true, true, true, true, true, true, true, true, false, false, false, false, false, false, false, false, false, false] rfl rfl (any_of HT_.out (by kernel_rfl)) (fun _ _ _ h => h) (Or.inl ⟨by rfl, ?_⟩) ?_ ?_
      rotate_left
      ·intro w'
       go_simp
       with_reducible rfl
      rotate_left
      ·simp only [Act.put, List.setIfInBounds_toArray, List.set_cons_zero, List.set_cons_succ, i64_w, i32_w]
       rfl
      refine pure_ (i := 8) (N := some 99) (v := undef) (a' := ?_) #[true, true, true, true, true, true, true, true, true, false, false, false, false, false, false, false, false, false] rfl rfl (any_of HT_.out (by kernel_rfl)) (fun _ _ _ h => h) (Or.inr ⟨by rfl, rfl⟩) ?_ ?_
      rotate_left
      ·simp only [Act.put, List.setIfInBounds_toArray, List.set_cons_zero, List.set_cons_succ, i64_w, i32_w]
       rfl
      refine pure_ (i := 9) (N := some 100) (v := undef) (a' := ?_) #[true, true, true, true, true, true, true, true, true, true, false, false, false, false, false, false, false, false] rfl rfl (any_of HT_.out (by kernel_rfl)) (fun _ _ _ h => h) (Or.inr ⟨by rfl, rfl⟩) ?_ ?_
      rotate_left
      ·simp only [Act.put, List.setIfInBounds_toArray, List.set_cons_zero, List.set_cons_succ, i64_w, i32_w]
       rfl
      refine pure_ (i := 10) (N := some 101) (v := undef) (a' := ?_) #[true, true, true, true, true, true, true, true, true, true, true, false, false, false, false, false, false, false] rfl rfl (any_of HT_.out (by kernel_rfl)) (fun _ _ _ h => h) (Or.inr ⟨by rfl, rfl⟩) ?_ ?_
      rotate_left
      ·simp only [Act.put, List.setIfInBounds_toArray, List.set_cons_zero, List.set_cons_succ, i64_w, i32_w]
       rfl
      refine pure_ (i := 11) (N := some 102) (v := undef) (a' := ?_) #[true, true, true, true, true, true, true, true, true, true, true, true, false, false, false, false, false, false] rfl rfl (any_of HT_.out (by kernel_rfl)) (fun _ _ _ h => h) (Or.inr ⟨by rfl, rfl⟩) ?_ ?_
      rotate_left
      ·simp only [Act.put, List.setIfInBounds_toArray, List.set_cons_zero, List.set_cons_succ, i64_w, i32_w]
       rfl
      refine pure_ (i := 12) (N := some 103) (v := undef) (a' := ?_) #[true, true, true, true, true, true, true, true, true, true, true, true, true, false, false, false, false, false] rfl rfl (any_of HT_.out (by kernel_rfl)) (fun _ _ _ h => h) (Or.inr ⟨by rfl, rfl⟩) ?_ ?_
      rotate_left
      ·simp only [Act.put, List.setIfInBounds_toArray, List.set_cons_zero, List.set_cons_succ, i64_w, i32_w]
       rfl
      refine pure_ (i := 13) (N := some 104) (v := undef) (a' := ?_) #[true, true, true, true, true, true, true, true, true, true, true, true, true, true, false, false, false, false] rfl rfl (any_of HT_.out (by kernel_rfl)) (fun _ _ _ h => h) (Or.inr ⟨by rfl, rfl⟩) ?_ ?_
      rotate_left
      ·simp only [Act.put, List.setIfInBounds_toArray, List.set_cons_zero, List.set_cons_succ, i64_w, i32_w]
       rfl
      refine pure_ (i := 14) (N := some 105) (v := undef) (a' := ?_) #[true, true, true, true, true, true, true, true, true, true, true, true, true, true, true, false, false, false] rfl rfl (any_of HT_.out (by kernel_rfl)) (fun _ _ _ h => h) (Or.inr ⟨by rfl, rfl⟩) ?_ ?_
      rotate_left
      ·simp only [Act.put, List.setIfInBounds_toArray, List.set_cons_zero, List.set_cons_succ, i64_w, i32_w]
       rfl
      refine pure_ (i := 15) (N := some 106) (v := undef) (a' := ?_) #[true, true, true, true, true, true, true, true, true, true, true, true, true, true, true, true, false, false] rfl rfl (any_of HT_.out (by kernel_rfl)) (fun _ _ _ h => h) (Or.inr ⟨by rfl, rfl⟩) ?_ ?_
      rotate_left
      ·simp only [Act.put, List.setIfInBounds_toArray, List.set_cons_zero, List.set_cons_succ, i64_w, i32_w]
       rfl
      refine pure_ (i := 16) (N := some 107) (v := undef) (a' := ?_) #[true, true, true, true, true, true, true, true, true, true, true, true, true, true, true, true, true, false] rfl rfl (any_of HT_.out (by kernel_rfl)) (fun _ _ _ h => h) (Or.inr ⟨by rfl, rfl⟩) ?_ ?_
      rotate_left
      ·simp only [Act.put, List.setIfInBounds_toArray, List.set_cons_zero, List.set_cons_succ, i64_w, i32_w]
       rfl
      refine pure_ (i := 17) (N := some 108) (v := ?_) (a' := ?_) #[true, true, true, true, true, true, true, true, true, true, true, true, true, true, true, true, true, true] rfl rfl (any_of HT_.out (by kernel_rfl)) (fun _ _ _ h => h) (Or.inl ⟨by rfl, ?_⟩) ?_ ?_
      rotate_left
      ·intro w'
       go_simp
       with_reducible rfl
      rotate_left
      ·simp only [Act.put, List.setIfInBounds_toArray, List.set_cons_zero, List.set_cons_succ, i64_w, i32_w]
       rfl
      refine done_ (done_of HT_.out (by kernel_rfl)) ?_
      try go_wp2
      go_meet
      case rel => exact ⟨_, (true), (by first | rfl | (simp; done) | (simp [*]; done)), H', ⟨by have := HJ5.out; have := HJ51.out; first | omega | exact Nat.le_refl _⟩, ⟨by (with_reducible repeat (first | apply Kd.V_alloc | apply Kd.V_drewN | apply Kd.V_drew)); exact HO_184001.out⟩, ⟨by (with_reducible repeat (first | apply Kd.V_alloc | apply Kd.V_drewN | apply Kd.V_drew)); exact HO_184002.out⟩, ⟨by (with_reducible repeat (first | apply Kd.V_alloc | apply Kd.V_drewN | apply Kd.V_drew)); exact HO_185001.out⟩, ⟨by (with_reducible repeat (first | apply Kd.V_alloc | apply Kd.V_drewN | apply Kd.V_drew)); exact HO_185002.out⟩, ⟨by (with_reducible repeat (first | apply Kd.N_alloc | apply Kd.N_drewN | apply Kd.N_drew)); exact HO_196002.out⟩, ⟨by (with_reducible repeat (first | apply Kd.N_alloc | apply Kd.N_drewN | apply Kd.N_drew)); exact HO_214002.out⟩, ⟨by (with_reducible repeat (first | apply Kd.R_alloc | apply Kd.R_drewN | apply Kd.R_drew)); exact HO_218001.out⟩, ⟨by (with_reducible repeat (first | apply Kd.R_alloc | apply Kd.R_drewN | apply Kd.R_drew)); exact HO_222001.out⟩, ⟨by (with_reducible repeat (first | apply Kd.R_alloc | apply Kd.R_drewN | apply Kd.R_drew)); exact HO_226001.out⟩, ⟨by (with_reducible repeat (first | refine blk_drewN ?_ _ | refine blk_drew ?_ | refine blk_alloc ?_ _)); exact BK183.out⟩, ⟨by (with_reducible repeat (first | refine blk_drewN ?_ _ | refine blk_drew ?_ | refine blk_alloc ?_ _)); exact BK184.out⟩, ⟨by (with_reducible repeat (first | refine blk_drewN ?_ _ | refine blk_drew ?_ | refine blk_alloc ?_ _)); exact BK195.out⟩, ⟨by (with_reducible repeat (first | refine blk_drewN ?_ _ | refine blk_drew ?_ | refine blk_alloc ?_ _)); exact BK213.out⟩, ⟨by (with_reducible repeat (first | refine blk_drewN ?_ _ | refine blk_drew ?_ | refine blk_alloc ?_ _)); exact BK217.out⟩, ⟨by (with_reducible repeat (first | refine blk_drewN ?_ _ | refine blk_drew ?_ | refine blk_alloc ?_ _)); exact BK221.out⟩, ⟨by (with_reducible repeat (first | refine blk_drewN ?_ _ | refine blk_drew ?_ | refine blk_alloc ?_ _)); exact BK225.out⟩, ⟨by repeat (first | (with_reducible first | exact HB.out | apply below_alloc | apply pw_below_drewN | apply below_drew1 | refine below_set ?_ (Aside0.out (by assumption))) | exact HB.out)⟩⟩
     ·rw [if_neg c223] at H
      have c223b0 : (t237 != t238) = false := by simpa using c223
      (try (have c223b1 : decide (t237 = t238) = true := by simpa using c223))
      (try (have c223b2 : (t237 == t238) = true := by simpa using c223))
      clear c223
      (first | rw [c223b0] | (simp only [i64_w, i32_w]; rw [c223b0]) | skip)
      replace H := Option.bind_eq_some_iff.mp H
      obtain ⟨t239, A2270, H⟩ := H
      replace H : (if t239 = true then ((eval_Match.f kj51 1 y218 ([] : List (S40)) a3).bind fun t240 => (verbatimlaw20_EvalLaws.j2 kj51 a2 a3 t185 (!t240) 4 y192 5 y210 2 y214 1 y218)) else (verbatimlaw20_EvalLaws.j2 kj51 a2 a3 t185 false 4 y192 5 y210 2 y214 1 y218)) = some r := H
      have A227 := am A2270
      clear A2270
      by_cases c228 : t239 = true
      ·subst c228
       have H1 : ((eval_Match.f kj51 1 y218 ([] : List (S40)) a3).bind fun t240 => (verbatimlaw20_EvalLaws.j2 kj51 a2 a3 t185 (!t240) 4 y192 5 y210 2 y214 1 y218)) = some r := by rw [if_pos rfl] at H; exact H
       clear H
       have H := H1
       clear H1
       replace H := Option.bind_eq_some_iff.mp H
       obtain ⟨t240, A2290, H⟩ := H
       replace H : (verbatimlaw20_EvalLaws.j2 kj51 a2 a3 t185 (!t240) 4 y192 5 y210 2 y214 1 y218) = some r := H
       have A229 := am A2290
       clear A2290
       have H' := am H
       clear H
       try go_wp2
       replace HO_184001 := am (Kd.V_drew HO_184001.out)
       replace HO_184002 := am (Kd.V_drew HO_184002.out)
       replace HO_185001 := am (Kd.V_drew HO_185001.out)
       replace HO_185002 := am (Kd.V_drew HO_185002.out)
       replace HO_196002 := am (Kd.N_drew HO_196002.out)
       replace HO_214002 := am (Kd.N_drew HO_214002.out)
       replace HO_218001 := am (Kd.R_drew HO_218001.out)
       replace HO_222001 := am (Kd.R_drew HO_222001.out)
       replace HO_226001 := am (Kd.R_drew HO_226001.out)
       replace BK183 := am (blk_drew BK183.out)
       replace BK184 := am (blk_drew BK184.out)
       replace BK195 := am (blk_drew BK195.out)
       replace BK213 := am (blk_drew BK213.out)
       replace BK217 := am (blk_drew BK217.out)
       replace BK221 := am (blk_drew BK221.out)
       replace BK225 := am (blk_drew BK225.out)
       replace HB := am (below_drew1 HB.out)
       refine start_ (n := 18) (S := fun w' => w'.cell? ⟨gb225, 0, none⟩ = some (.int .i64 3) ∧ w'.cell? ⟨gb225, 1, none⟩ = some (.slice Ao105 y222.length co105) ∧ w'.cell? ⟨gb225, 2, none⟩ = some (.slice none 0 0) ∧ w'.cell? ⟨gb221, 0, none⟩ = some (.int .i64 1) ∧ w'.cell? ⟨gb221, 1, none⟩ = some (.slice Ao95 y218.length co95) ∧ w'.cell? ⟨gb221, 2, none⟩ = some (.slice none 0 0) ∧ w'.cell? ⟨gb217, 0, none⟩ = some (.int .i64 2) ∧ w'.cell? ⟨gb217, 1, none⟩ = some (.slice Ao86 y214.length co86) ∧ w'.cell? ⟨gb217, 2, none⟩ = some (.slice none 0 0)) (ds := []) #[false, false, false, false, false, false, false, false, false, false, false, false, false, false, false, false, false, false] (by kernel_rfl) rfl rfl ⟨(blk_cell BK225.out 0).trans rfl, (blk_cell BK225.out 1).trans rfl, (blk_cell BK225.out 2).trans rfl, (blk_cell BK221.out 0).trans rfl, (blk_cell BK221.out 1).trans rfl, (blk_cell BK221.out 2).trans rfl, (blk_cell BK217.out 0).trans rfl, (blk_cell BK217.out 1).trans rfl, (blk_cell BK217.out 2).trans rfl⟩ (fun hHeld => ?_); refine with_tabW verbatimlaw20_EvalLaws.tab13 verbatimlaw20_EvalLaws.bits13 (fun HT_ HW_ => ?_)
       generalize wc.drew = w230 at HO_184001 HO_184002 HO_185001 HO_185002 HO_196002 HO_214002 HO_218001 HO_222001 HO_226001 BK183 BK184 BK195 BK213 BK217 BK221 BK225 HB hHeld ⊢
       refine pure_ (i := 1) (N := some 92) (v := ?_) (a' := ?_) #[false, true, false, false, false, false, false, false, false, false, false, false, false, false, false, false, false, false] rfl rfl (any_of HT_.out (by kernel_rfl)) (fun _ _ _ h => h) (Or.inl ⟨by rfl, ?_⟩) ?_ ?_
       rotate_left
       ·intro w'
        go_simp
        with_reducible rfl
       rotate_left
       ·simp only [Act.put, List.setIfInBounds_toArray, List.set_cons_zero, List.set_cons_succ, i64_w, i32_w]
        rfl
       refine pure_ (i := 4) (N := some 95) (v := ?_) (a' := ?_) #[false, true, false, false, true, false, false, false, false, false, false, false, false, false, false, false, false, false] rfl rfl (any_of HT_.out (by kernel_rfl)) (fun _ _ _ h => h) (Or.inl ⟨by rfl, ?_⟩) ?_ ?_
       rotate_left
       ·intro w'
        go_simp
        with_reducible rfl
       rotate_left
       ·simp only [Act.put, List.setIfInBounds_toArray, List.set_cons_zero, List.set_cons_succ, i64_w, i32_w]
        rfl
       refine take_ (i := 0) (N := some 91) (v := ?_) (a' := ?_) #[true, true, false, false, true, false, false, false, false, false, false, false, false, false, false, false, false, false] rfl rfl (take_ofW HT_.out HW_.out (by kernel_rfl)) (fun _ _ _ h => h) (Or.inl ⟨by rfl, ?_⟩) hHeld ?_ ?_
       rotate_left
       ·rintro w' ⟨s0, s1, s2, s3, s4, s5, s6, s7, s8⟩
        go_simp
        with_reducible rfl
       rotate_left
       ·simp only [Act.put, List.setIfInBounds_toArray, List.set_cons_zero, List.set_cons_succ, i64_w, i32_w]
        rfl
       refine take_ (i := 3) (N := some 94) (v := ?_) (a' := ?_) #[true, true, false, true, true, false, false, false, false, false, false, false, false, false, false, false, false, false] rfl rfl (take_ofW HT_.out HW_.out (by kernel_rfl)) (fun _ _ _ h => h) (Or.inl ⟨by rfl, ?_⟩) hHeld ?_ ?_
       rotate_left
       ·rintro w' ⟨s0, s1, s2, s3, s4, s5, s6, s7, s8⟩
        go_simp
        with_reducible rfl
       rotate_left
       ·simp only [Act.put, List.setIfInBounds_toArray, List.set_cons_zero, List.set_cons_succ, i64_w, i32_w]
        rfl
       refine one_ (i := 2) (N := some 93) #[true, true, true, true, true, false, false, false, false, false, false, false, false, false, false, false, false, false] rfl rfl (one_of HT_.out (by kernel_rfl)) (by decide) (fun K hK => ?_)
       refine goes_ Try.func25 (by kernel_rfl) rfl #[.agg #[.int .i64 3, .slice Ao105 y222.length co105, .slice none 0 0], .string a3] (by rfl) rfl rfl (by (try simp only [List.map_toArray, List.map_cons, List.map_nil]); first | done | rfl | (simp only [List.length_drop, List.length_take]; rfl)) ?_
       refine (eval_Match.calls kj51 3 _ _ y222 _ _ ([] : List (S40)) a3 t237 _ ?side1 ?side2 ?side3 ?side4 ?side5 A221.out).mono ?_
       (case side1 => first | exact GlobOk.below HG.out (by repeat first | exact lU HB.out | refine below_set ?_ (Aside0.out (by assumption)) | apply below_alloc | apply pw_below_drewN | apply below_drew1) | (repeat (first | exact HG.out | (with_reducible refine GlobOk.alloc ?_ _) | (with_reducible refine GlobOk.drewN ?_ _) | (with_reducible refine GlobOk.drew ?_))))
       (case side2 => repeat (first | exact (Kd.R_reads' HO_226001.out).2.2 | (with_reducible refine Kd.C_alloc ?_ _) | (with_reducible refine Kd.C_drewN ?_ _) | (with_reducible refine Kd.C_drew ?_)))
       (case side3 => exact (Kd.R_reads' HO_226001.out).2.1)
       (case side4 => exact Kd.C_nil _ _)
       (case side5 => exact Nat.le_refl _)
       rintro e w231 ⟨rfl, hb⟩
       refine ⟨_, rfl, ?_⟩
       replace HO_184001 := am (Kd.V_below (vU HO_184001.out) hb)
       replace HO_184002 := am (Kd.V_below (vU HO_184002.out) hb)
       replace HO_185001 := am (Kd.V_below (vU HO_185001.out) hb)
       replace HO_185002 := am (Kd.V_below (vU HO_185002.out) hb)
       replace HO_196002 := am (Kd.N_below (nU HO_196002.out) hb)
       replace HO_214002 := am (Kd.N_below (nU HO_214002.out) hb)
       replace HO_218001 := am (Kd.R_below (rU HO_218001.out) hb)
       replace HO_222001 := am (Kd.R_below (rU HO_222001.out) hb)
       replace HO_226001 := am (Kd.R_below (rU HO_226001.out) hb)
       replace BK183 := am (blk_below (bU BK183.out) hb)
       replace BK184 := am (blk_below (bU BK184.out) hb)
       replace BK195 := am (blk_below (bU BK195.out) hb)
       replace BK213 := am (blk_below (bU BK213.out) hb)
       replace BK217 := am (blk_below (bU BK217.out) hb)
       replace BK221 := am (blk_below (bU BK221.out) hb)
       replace BK225 := am (blk_below (bU BK225.out) hb)
       replace HB := am (below_step (by repeat first | exact lU HB.out | refine below_set ?_ (Aside0.out (by assumption)) | apply below_alloc | apply pw_below_drewN | apply below_drew1) hb)
       (try clear hb)
       (try clear hb2)
       (try clear hk)
       (try clear hi)
       refine hK.out _ _ ⟨(blk_cell BK225.out 0).trans rfl, (blk_cell BK225.out 1).trans rfl, (blk_cell BK225.out 2).trans rfl, (blk_cell BK221.out 0).trans rfl, (blk_cell BK221.out 1).trans rfl, (blk_cell BK221.out 2).trans rfl, (blk_cell BK217.out 0).trans rfl, (blk_cell BK217.out 1).trans rfl, (blk_cell BK217.out 2).trans rfl⟩ (fun hHeld => ?_)
       clear hK K
       refine norm_ (a' := ?_) ?_ ?_
       rotate_left
       ·show Act.put _ (some 93) _ = _
        simp only [Act.put, List.setIfInBounds_toArray, List.set_cons_zero, List.set_cons_succ, i64_w, i32_w]
        rfl
       refine one_ (i := 5) (N := some 96) #[true, true, true, true, true, true, false, false, false, false, false, false, false, false, false, false, false, false] rfl rfl (one_of HT_.out (by kernel_rfl)) (by decide) (fun K hK => ?_)
       refine goes_ Try.func25 (by kernel_rfl) rfl #[.agg #[.int .i64 1, .slice Ao95 y218.length co95, .slice none 0 0], .string a3] (by rfl) rfl rfl (by (try simp only [List.map_toArray, List.map_cons, List.map_nil]); first | done | rfl | (simp only [List.length_drop, List.length_take]; rfl)) ?_
       refine (eval_Match.calls kj51 1 _ _ y218 _ _ ([] : List (S40)) a3 t238 _ ?side1 ?side2 ?side3 ?side4 ?side5 A222.out).mono ?_
       (case side1 => first | exact GlobOk.below HG.out (by repeat first | exact lU HB.out | refine below_set ?_ (Aside0.out (by assumption)) | apply below_alloc | apply pw_below_drewN | apply below_drew1) | (repeat (first | exact HG.out | (with_reducible refine GlobOk.alloc ?_ _) | (with_reducible refine GlobOk.drewN ?_ _) | (with_reducible refine GlobOk.drew ?_))))
       (case side2 => repeat (first | exact (Kd.R_reads' HO_222001.out).2.2 | (with_reducible refine Kd.C_alloc ?_ _) | (with_reducible refine Kd.C_drewN ?_ _) | (with_reducible refine Kd.C_drew ?_)))
       (case side3 => exact (Kd.R_reads' HO_222001.out).2.1)
       (case side4 => exact Kd.C_nil _ _)
       (case side5 => exact Nat.le_refl _)
       rintro e w232 ⟨rfl, hb⟩
       refine ⟨_, rfl, ?_⟩
       replace HO_184001 := am (Kd.V_below (vU HO_184001.out) hb)
       replace HO_184002 := am (Kd.V_below (vU HO_184002.out) hb)
       replace HO_185001 := am (Kd.V_below (vU HO_185001.out) hb)
       replace HO_185002 := am (Kd.V_below (vU HO_185002.out) hb)
       replace HO_196002 := am (Kd.N_below (nU HO_196002.out) hb)
       replace HO_214002 := am (Kd.N_below (nU HO_214002.out) hb)
       replace HO_218001 := am (Kd.R_below (rU HO_218001.out) hb)
       replace HO_222001 := am (Kd.R_below (rU HO_222001.out) hb)
       replace HO_226001 := am (Kd.R_below (rU HO_226001.out) hb)
       replace BK183 := am (blk_below (bU BK183.out) hb)
       replace BK184 := am (blk_below (bU BK184.out) hb)
       replace BK195 := am (blk_below (bU BK195.out) hb)
       replace BK213 := am (blk_below (bU BK213.out) hb)
       replace BK217 := am (blk_below (bU BK217.out) hb)
       replace BK221 := am (blk_below (bU BK221.out) hb)
       replace BK225 := am (blk_below (bU BK225.out) hb)
       replace HB := am (below_step (by repeat first | exact lU HB.out | refine below_set ?_ (Aside0.out (by assumption)) | apply below_alloc | apply pw_below_drewN | apply below_drew1) hb)
       (try clear hb)
       (try clear hb2)
       (try clear hk)
       (try clear hi)
       refine hK.out _ _ ⟨(blk_cell BK225.out 0).trans rfl, (blk_cell BK225.out 1).trans rfl, (blk_cell BK225.out 2).trans rfl, (blk_cell BK221.out 0).trans rfl, (blk_cell BK221.out 1).trans rfl, (blk_cell BK221.out 2).trans rfl, (blk_cell BK217.out 0).trans rfl, (blk_cell BK217.out 1).trans rfl, (blk_cell BK217.out 2).trans rfl⟩ (fun hHeld => ?_)
       clear hK K
       refine norm_ (a' := ?_) ?_ ?_
       rotate_left
       ·show Act.put _ (some 96) _ = _
        simp only [Act.put, List.setIfInBounds_toArray, List.set_cons_zero, List.set_cons_succ, i64_w, i32_w]
        rfl
       refine pure_ (i := 6) (N := some 97) (v := ?_) (a' := ?_) #[true, true, true, true, true, true, true, false, false, false, false, false, false, false, false, false, false, false] rfl rfl (any_of HT_.out (by kernel_rfl)) (fun _ _ _ h => h) (Or.inl ⟨by rfl, ?_⟩) ?_ ?_
       rotate_left
       ·intro w'
        go_simp
        with_reducible rfl
       rotate_left
       ·simp only [Act.put, List.setIfInBounds_toArray, List.set_cons_zero, List.set_cons_succ, i64_w, i32_w]
        rfl
       refine pure_ (i := 7) (N := some 98) (v := ?_) (a' := ?_) #[true, true, true, true, true, true, true, true, false, false, false, false, false, false, false, false, false, false] rfl rfl (any_of HT_.out (by kernel_rfl)) (fun _ _ _ h => h) (Or.inl ⟨by rfl, ?_⟩) ?_ ?_
       rotate_left
       ·intro w'
        go_simp
        with_reducible rfl
       rotate_left
       ·simp only [Act.put, List.setIfInBounds_toArray, List.set_cons_zero, List.set_cons_succ, i64_w, i32_w]
        rfl
       refine pure_ (i := 9) (N := some 100) (v := ?_) (a' := ?_) #[true, true, true, true, true, true, true, true, false, true, false, false, false, false, false, false, false, false] rfl rfl (any_of HT_.out (by kernel_rfl)) (fun _ _ _ h => h) (Or.inl ⟨by rfl, ?_⟩) ?_ ?_
       rotate_left
       ·intro w'
        go_simp
        with_reducible rfl
       rotate_left
       ·simp only [Act.put, List.setIfInBounds_toArray, List.set_cons_zero, List.set_cons_succ, i64_w, i32_w]
        rfl
       refine take_ (i := 8) (N := some 99) (v := ?_) (a' := ?_) #[true, true, true, true, true, true, true, true, true, true, false, false, false, false, false, false, false, false] rfl rfl (take_ofW HT_.out HW_.out (by kernel_rfl)) (fun _ _ _ h => h) (Or.inl ⟨by rfl, ?_⟩) hHeld ?_ ?_
       rotate_left
       ·rintro w' ⟨s0, s1, s2, s3, s4, s5, s6, s7, s8⟩
        go_simp
        with_reducible rfl
       rotate_left
       ·simp only [Act.put, List.setIfInBounds_toArray, List.set_cons_zero, List.set_cons_succ, i64_w, i32_w]
        rfl
       refine one_ (i := 10) (N := some 101) #[true, true, true, true, true, true, true, true, true, true, true, false, false, false, false, false, false, false] rfl rfl (one_of HT_.out (by kernel_rfl)) (by decide) (fun K hK => ?_)
       refine goes_ Try.func25 (by kernel_rfl) rfl #[.agg #[.int .i64 2, .slice Ao86 y214.length co86, .slice none 0 0], .string a3] (by rfl) rfl rfl (by (try simp only [List.map_toArray, List.map_cons, List.map_nil]); first | done | rfl | (simp only [List.length_drop, List.length_take]; rfl)) ?_
       refine (eval_Match.calls kj51 2 _ _ y214 _ _ ([] : List (S40)) a3 true _ ?side1 ?side2 ?side3 ?side4 ?side5 A227.out).mono ?_
       (case side1 => first | exact GlobOk.below HG.out (by repeat first | exact lU HB.out | refine below_set ?_ (Aside0.out (by assumption)) | apply below_alloc | apply pw_below_drewN | apply below_drew1) | (repeat (first | exact HG.out | (with_reducible refine GlobOk.alloc ?_ _) | (with_reducible refine GlobOk.drewN ?_ _) | (with_reducible refine GlobOk.drew ?_))))
       (case side2 => repeat (first | exact (Kd.R_reads' HO_218001.out).2.2 | (with_reducible refine Kd.C_alloc ?_ _) | (with_reducible refine Kd.C_drewN ?_ _) | (with_reducible refine Kd.C_drew ?_)))
       (case side3 => exact (Kd.R_reads' HO_218001.out).2.1)
       (case side4 => exact Kd.C_nil _ _)
       (case side5 => exact Nat.le_refl _)
       rintro e w233 ⟨rfl, hb⟩
       refine ⟨_, rfl, ?_⟩
       replace HO_184001 := am (Kd.V_below (vU HO_184001.out) hb)
       replace HO_184002 := am (Kd.V_below (vU HO_184002.out) hb)
       replace HO_185001 := am (Kd.V_below (vU HO_185001.out) hb)
       replace HO_185002 := am (Kd.V_below (vU HO_185002.out) hb)
       replace HO_196002 := am (Kd.N_below (nU HO_196002.out) hb)
       replace HO_214002 := am (Kd.N_below (nU HO_214002.out) hb)
       replace HO_218001 := am (Kd.R_below (rU HO_218001.out) hb)
       replace HO_222001 := am (Kd.R_below (rU HO_222001.out) hb)
       replace HO_226001 := am (Kd.R_below (rU HO_226001.out) hb)
       replace BK183 := am (blk_below (bU BK183.out) hb)
       replace BK184 := am (blk_below (bU BK184.out) hb)
       replace BK195 := am (blk_below (bU BK195.out) hb)
       replace BK213 := am (blk_below (bU BK213.out) hb)
       replace BK217 := am (blk_below (bU BK217.out) hb)
       replace BK221 := am (blk_below (bU BK221.out) hb)
       replace BK225 := am (blk_below (bU BK225.out) hb)
       replace HB := am (below_step (by repeat first | exact lU HB.out | refine below_set ?_ (Aside0.out (by assumption)) | apply below_alloc | apply pw_below_drewN | apply below_drew1) hb)
       (try clear hb)
       (try clear hb2)
       (try clear hk)
       (try clear hi)
       refine hK.out _ _ ⟨(blk_cell BK225.out 0).trans rfl, (blk_cell BK225.out 1).trans rfl, (blk_cell BK225.out 2).trans rfl, (blk_cell BK221.out 0).trans rfl, (blk_cell BK221.out 1).trans rfl, (blk_cell BK221.out 2).trans rfl, (blk_cell BK217.out 0).trans rfl, (blk_cell BK217.out 1).trans rfl, (blk_cell BK217.out 2).trans rfl⟩ (fun hHeld => ?_)
       clear hK K
       refine norm_ (a' := ?_) ?_ ?_
       rotate_left
       ·show Act.put _ (some 101) _ = _
        simp only [Act.put, List.setIfInBounds_toArray, List.set_cons_zero, List.set_cons_succ, i64_w, i32_w]
        rfl
       refine pure_ (i := 11) (N := some 102) (v := ?_) (a' := ?_) #[true, true, true, true, true, true, true, true, true, true, true, true, false, false, false, false, false, false] rfl rfl (any_of HT_.out (by kernel_rfl)) (fun _ _ _ h => h) (Or.inl ⟨by rfl, ?_⟩) ?_ ?_
       rotate_left
       ·intro w'
        go_simp
        with_reducible rfl
       rotate_left
       ·simp only [Act.put, List.setIfInBounds_toArray, List.set_cons_zero, List.set_cons_succ, i64_w, i32_w]
        rfl
       refine pure_ (i := 13) (N := some 104) (v := ?_) (a' := ?_) #[true, true, true, true, true, true, true, true, true, true, true, true, false, true, false, false, false, false] rfl rfl (any_of HT_.out (by kernel_rfl)) (fun _ _ _ h => h) (Or.inl ⟨by rfl, ?_⟩) ?_ ?_
       rotate_left
       ·intro w'
        go_simp
        with_reducible rfl
       rotate_left
       ·simp only [Act.put, List.setIfInBounds_toArray, List.set_cons_zero, List.set_cons_succ, i64_w, i32_w]
        rfl
       refine take_ (i := 12) (N := some 103) (v := ?_) (a' := ?_) #[true, true, true, true, true, true, true, true, true, true, true, true, true, true, false, false, false, false] rfl rfl (take_ofW HT_.out HW_.out (by kernel_rfl)) (fun _ _ _ h => h) (Or.inl ⟨by rfl, ?_⟩) hHeld ?_ ?_
       rotate_left
       ·rintro w' ⟨s0, s1, s2, s3, s4, s5, s6, s7, s8⟩
        go_simp
        with_reducible rfl
       rotate_left
       ·simp only [Act.put, List.setIfInBounds_toArray, List.set_cons_zero, List.set_cons_succ, i64_w, i32_w]
        rfl
       refine one_ (i := 14) (N := some 105) #[true, true, true, true, true, true, true, true, true, true, true, true, true, true, true, false, false, false] rfl rfl (one_of HT_.out (by kernel_rfl)) (by decide) (fun K hK => ?_)
       refine goes_ Try.func25 (by kernel_rfl) rfl #[.agg #[.int .i64 1, .slice Ao95 y218.length co95, .slice none 0 0], .string a3] (by rfl) rfl rfl (by (try simp only [List.map_toArray, List.map_cons, List.map_nil]); first | done | rfl | (simp only [List.length_drop, List.length_take]; rfl)) ?_
       refine (eval_Match.calls kj51 1 _ _ y218 _ _ ([] : List (S40)) a3 t240 _ ?side1 ?side2 ?side3 ?side4 ?side5 A229.out).mono ?_
       (case side1 => first | exact GlobOk.below HG.out (by repeat first | exact lU HB.out | refine below_set ?_ (Aside0.out (by assumption)) | apply below_alloc | apply pw_below_drewN | apply below_drew1) | (repeat (first | exact HG.out | (with_reducible refine GlobOk.alloc ?_ _) | (with_reducible refine GlobOk.drewN ?_ _) | (with_reducible refine GlobOk.drew ?_))))
       (case side2 => repeat (first | exact (Kd.R_reads' HO_222001.out).2.2 | (with_reducible refine Kd.C_alloc ?_ _) | (with_reducible refine Kd.C_drewN ?_ _) | (with_reducible refine Kd.C_drew ?_)))
       (case side3 => exact (Kd.R_reads' HO_222001.out).2.1)
       (case side4 => exact Kd.C_nil _ _)
       (case side5 => exact Nat.le_refl _)
       rintro e w234 ⟨rfl, hb⟩
       refine ⟨_, rfl, ?_⟩
       replace HO_184001 := am (Kd.V_below (vU HO_184001.out) hb)
       replace HO_184002 := am (Kd.V_below (vU HO_184002.out) hb)
       replace HO_185001 := am (Kd.V_below (vU HO_185001.out) hb)
       replace HO_185002 := am (Kd.V_below (vU HO_185002.out) hb)
       replace HO_196002 := am (Kd.N_below (nU HO_196002.out) hb)
       replace HO_214002 := am (Kd.N_below (nU HO_214002.out) hb)
       replace HO_218001 := am (Kd.R_below (rU HO_218001.out) hb)
       replace HO_222001 := am (Kd.R_below (rU HO_222001.out) hb)
       replace HO_226001 := am (Kd.R_below (rU HO_226001.out) hb)
       replace BK183 := am (blk_below (bU BK183.out) hb)
       replace BK184 := am (blk_below (bU BK184.out) hb)
       replace BK195 := am (blk_below (bU BK195.out) hb)
       replace BK213 := am (blk_below (bU BK213.out) hb)
       replace BK217 := am (blk_below (bU BK217.out) hb)
       replace BK221 := am (blk_below (bU BK221.out) hb)
       replace BK225 := am (blk_below (bU BK225.out) hb)
       replace HB := am (below_step (by repeat first | exact lU HB.out | refine below_set ?_ (Aside0.out (by assumption)) | apply below_alloc | apply pw_below_drewN | apply below_drew1) hb)
       (try clear hb)
       (try clear hb2)
       (try clear hk)
       (try clear hi)
       refine hK.out _ _ ⟨(blk_cell BK225.out 0).trans rfl, (blk_cell BK225.out 1).trans rfl, (blk_cell BK225.out 2).trans rfl, (blk_cell BK221.out 0).trans rfl, (blk_cell BK221.out 1).trans rfl, (blk_cell BK221.out 2).trans rfl, (blk_cell BK217.out 0).trans rfl, (blk_cell BK217.out 1).trans rfl, (blk_cell BK217.out 2).trans rfl⟩ (fun hHeld => ?_)
       clear hK K
       refine norm_ (a' := ?_) ?_ ?_
       rotate_left
       ·show Act.put _ (some 105) _ = _
        simp only [Act.put, List.setIfInBounds_toArray, List.set_cons_zero, List.set_cons_succ, i64_w, i32_w]
        rfl
       refine pure_ (i := 15) (N := some 106) (v := ?_) (a' := ?_) #[true, true, true, true, true, true, true, true, true, true, true, true, true, true, true, true, false, false] rfl rfl (any_of HT_.out (by kernel_rfl)) (fun _ _ _ h => h) (Or.inl ⟨by rfl, ?_⟩) ?_ ?_
       rotate_left
       ·intro w'
        go_simp
        with_reducible rfl
       rotate_left
       ·simp only [Act.put, List.setIfInBounds_toArray, List.set_cons_zero, List.set_cons_succ, i64_w, i32_w]
        rfl
       refine pure_ (i := 16) (N := some 107) (v := ?_) (a' := ?_) #[true, true, true, true, true, true, true, true, true, true, true, true, true, true, true, true, true, false] rfl rfl (any_of HT_.out (by kernel_rfl)) (fun _ _ _ h => h) (Or.inl ⟨by rfl, ?_⟩) ?_ ?_
       rotate_left
       ·intro w'
        go_simp
        with_reducible rfl
       rotate_left
       ·simp only [Act.put, List.setIfInBounds_toArray, List.set_cons_zero, List.set_cons_succ, i64_w, i32_w]
        rfl
       refine pure_ (i := 17) (N := some 108) (v := ?_) (a' := ?_) #[true, true, true, true, true, true, true, true, true, true, true, true, true, true, true, true, true, true] rfl rfl (any_of HT_.out (by kernel_rfl)) (fun _ _ _ h => h) (Or.inl ⟨by rfl, ?_⟩) ?_ ?_
       rotate_left
       ·intro w'
        go_simp
        with_reducible rfl
       rotate_left
       ·simp only [Act.put, List.setIfInBounds_toArray, List.set_cons_zero, List.set_cons_succ, i64_w, i32_w]
        rfl
       refine done_ (done_of HT_.out (by kernel_rfl)) ?_
       try go_wp2
       go_meet
       case rel => exact ⟨_, (!t240), (by first | rfl | (simp; done) | (simp [*]; done)), H', ⟨by have := HJ5.out; have := HJ51.out; first | omega | exact Nat.le_refl _⟩, ⟨by (with_reducible repeat (first | apply Kd.V_alloc | apply Kd.V_drewN | apply Kd.V_drew)); exact HO_184001.out⟩, ⟨by (with_reducible repeat (first | apply Kd.V_alloc | apply Kd.V_drewN | apply Kd.V_drew)); exact HO_184002.out⟩, ⟨by (with_reducible repeat (first | apply Kd.V_alloc | apply Kd.V_drewN | apply Kd.V_drew)); exact HO_185001.out⟩, ⟨by (with_reducible repeat (first | apply Kd.V_alloc | apply Kd.V_drewN | apply Kd.V_drew)); exact HO_185002.out⟩, ⟨by (with_reducible repeat (first | apply Kd.N_alloc | apply Kd.N_drewN | apply Kd.N_drew)); exact HO_196002.out⟩, ⟨by (with_reducible repeat (first | apply Kd.N_alloc | apply Kd.N_drewN | apply Kd.N_drew)); exact HO_214002.out⟩, ⟨by (with_reducible repeat (first | apply Kd.R_alloc | apply Kd.R_drewN | apply Kd.R_drew)); exact HO_218001.out⟩, ⟨by (with_reducible repeat (first | apply Kd.R_alloc | apply Kd.R_drewN | apply Kd.R_drew)); exact HO_222001.out⟩, ⟨by (with_reducible repeat (first | apply Kd.R_alloc | apply Kd.R_drewN | apply Kd.R_drew)); exact HO_226001.out⟩, ⟨by (with_reducible repeat (first | refine blk_drewN ?_ _ | refine blk_drew ?_ | refine blk_alloc ?_ _)); exact BK183.out⟩, ⟨by (with_reducible repeat (first | refine blk_drewN ?_ _ | refine blk_drew ?_ | refine blk_alloc ?_ _)); exact BK184.out⟩, ⟨by (with_reducible repeat (first | refine blk_drewN ?_ _ | refine blk_drew ?_ | refine blk_alloc ?_ _)); exact BK195.out⟩, ⟨by (with_reducible repeat (first | refine blk_drewN ?_ _ | refine blk_drew ?_ | refine blk_alloc ?_ _)); exact BK213.out⟩, ⟨by (with_reducible repeat (first | refine blk_drewN ?_ _ | refine blk_drew ?_ | refine blk_alloc ?_ _)); exact BK217.out⟩, ⟨by (with_reducible repeat (first | refine blk_drewN ?_ _ | refine blk_drew ?_ | refine blk_alloc ?_ _)); exact BK221.out⟩, ⟨by (with_reducible repeat (first | refine blk_drewN ?_ _ | refine blk_drew ?_ | refine blk_alloc ?_ _)); exact BK225.out⟩, ⟨by repeat (first | (with_reducible first | exact HB.out | apply below_alloc | apply pw_below_drewN | apply below_drew1 | refine below_set ?_ (Aside0.out (by assumption))) | exact HB.out)⟩⟩
      ·replace c228 := Bool.eq_false_iff.mpr c228
       subst c228
       have H1 : (verbatimlaw20_EvalLaws.j2 kj51 a2 a3 t185 false 4 y192 5 y210 2 y214 1 y218) = some r := by rw [if_neg (show ¬ (false = true) by decide)] at H; exact H
       clear H
       have H := H1
       clear H1
       have H' := am H
       clear H
       try go_wp2
       replace HO_184001 := am (Kd.V_drew HO_184001.out)
       replace HO_184002 := am (Kd.V_drew HO_184002.out)
       replace HO_185001 := am (Kd.V_drew HO_185001.out)
       replace HO_185002 := am (Kd.V_drew HO_185002.out)
       replace HO_196002 := am (Kd.N_drew HO_196002.out)
       replace HO_214002 := am (Kd.N_drew HO_214002.out)
       replace HO_218001 := am (Kd.R_drew HO_218001.out)
       replace HO_222001 := am (Kd.R_drew HO_222001.out)
       replace HO_226001 := am (Kd.R_drew HO_226001.out)
       replace BK183 := am (blk_drew BK183.out)
       replace BK184 := am (blk_drew BK184.out)
       replace BK195 := am (blk_drew BK195.out)
       replace BK213 := am (blk_drew BK213.out)
       replace BK217 := am (blk_drew BK217.out)
       replace BK221 := am (blk_drew BK221.out)
       replace BK225 := am (blk_drew BK225.out)
       replace HB := am (below_drew1 HB.out)
       refine start_ (n := 18) (S := fun w' => w'.cell? ⟨gb225, 0, none⟩ = some (.int .i64 3) ∧ w'.cell? ⟨gb225, 1, none⟩ = some (.slice Ao105 y222.length co105) ∧ w'.cell? ⟨gb225, 2, none⟩ = some (.slice none 0 0) ∧ w'.cell? ⟨gb221, 0, none⟩ = some (.int .i64 1) ∧ w'.cell? ⟨gb221, 1, none⟩ = some (.slice Ao95 y218.length co95) ∧ w'.cell? ⟨gb221, 2, none⟩ = some (.slice none 0 0) ∧ w'.cell? ⟨gb217, 0, none⟩ = some (.int .i64 2) ∧ w'.cell? ⟨gb217, 1, none⟩ = some (.slice Ao86 y214.length co86) ∧ w'.cell? ⟨gb217, 2, none⟩ = some (.slice none 0 0)) (ds := []) #[false, false, false, false, false, false, false, false, false, false, false, false, false, false, false, false, false, false] (by kernel_rfl) rfl rfl ⟨(blk_cell BK225.out 0).trans rfl, (blk_cell BK225.out 1).trans rfl, (blk_cell BK225.out 2).trans rfl, (blk_cell BK221.out 0).trans rfl, (blk_cell BK221.out 1).trans rfl, (blk_cell BK221.out 2).trans rfl, (blk_cell BK217.out 0).trans rfl, (blk_cell BK217.out 1).trans rfl, (blk_cell BK217.out 2).trans rfl⟩ (fun hHeld => ?_); refine with_tabW verbatimlaw20_EvalLaws.tab13 verbatimlaw20_EvalLaws.bits13 (fun HT_ HW_ => ?_)
       generalize wc.drew = w235 at HO_184001 HO_184002 HO_185001 HO_185002 HO_196002 HO_214002 HO_218001 HO_222001 HO_226001 BK183 BK184 BK195 BK213 BK217 BK221 BK225 HB hHeld ⊢
       refine pure_ (i := 1) (N := some 92) (v := ?_) (a' := ?_) #[false, true, false, false, false, false, false, false, false, false, false, false, false, false, false, false, false, false] rfl rfl (any_of HT_.out (by kernel_rfl)) (fun _ _ _ h => h) (Or.inl ⟨by rfl, ?_⟩) ?_ ?_
       rotate_left
       ·intro w'
        go_simp
        with_reducible rfl
       rotate_left
       ·simp only [Act.put, List.setIfInBounds_toArray, List.set_cons_zero, List.set_cons_succ, i64_w, i32_w]
        rfl
       refine pure_ (i := 4) (N := some 95) (v := ?_) (a' := ?_) #[false, true, false, false, true, false, false, false, false, false, false, false, false, false, false, false, false, false] rfl rfl (any_of HT_.out (by kernel_rfl)) (fun _ _ _ h => h) (Or.inl ⟨by rfl, ?_⟩) ?_ ?_
       rotate_left
       ·intro w'
        go_simp
        with_reducible rfl
       rotate_left
       ·simp only [Act.put, List.setIfInBounds_toArray, List.set_cons_zero, List.set_cons_succ, i64_w, i32_w]
        rfl
       refine take_ (i := 0) (N := some 91) (v := ?_) (a' := ?_) #[true, true, false, false, true, false, false, false, false, false, false, false, false, false, false, false, false, false] rfl rfl (take_ofW HT_.out HW_.out (by kernel_rfl)) (fun _ _ _ h => h) (Or.inl ⟨by rfl, ?_⟩) hHeld ?_ ?_
       rotate_left
       ·rintro w' ⟨s0, s1, s2, s3, s4, s5, s6, s7, s8⟩
        go_simp
        with_reducible rfl
       rotate_left
       ·simp only [Act.put, List.setIfInBounds_toArray, List.set_cons_zero, List.set_cons_succ, i64_w, i32_w]
        rfl
       refine take_ (i := 3) (N := some 94) (v := ?_) (a' := ?_) #[true, true, false, true, true, false, false, false, false, false, false, false, false, false, false, false, false, false] rfl rfl (take_ofW HT_.out HW_.out (by kernel_rfl)) (fun _ _ _ h => h) (Or.inl ⟨by rfl, ?_⟩) hHeld ?_ ?_
       rotate_left
       ·rintro w' ⟨s0, s1, s2, s3, s4, s5, s6, s7, s8⟩
        go_simp
        with_reducible rfl
       rotate_left
       ·simp only [Act.put, List.setIfInBounds_toArray, List.set_cons_zero, List.set_cons_succ, i64_w, i32_w]
        rfl
       refine one_ (i := 2) (N := some 93) #[true, true, true, true, true, false, false, false, false, false, false, false, false, false, false, false, false, false] rfl rfl (one_of HT_.out (by kernel_rfl)) (by decide) (fun K hK => ?_)
       refine goes_ Try.func25 (by kernel_rfl) rfl #[.agg #[.int .i64 3, .slice Ao105 y222.length co105, .slice none 0 0], .string a3] (by rfl) rfl rfl (by (try simp only [List.map_toArray, List.map_cons, List.map_nil]); first | done | rfl | (simp only [List.length_drop, List.length_take]; rfl)) ?_
       refine (eval_Match.calls kj51 3 _ _ y222 _ _ ([] : List (S40)) a3 t237 _ ?side1 ?side2 ?side3 ?side4 ?side5 A221.out).mono ?_
       (case side1 => first | exact GlobOk.below HG.out (by repeat first | exact lU HB.out | refine below_set ?_ (Aside0.out (by assumption)) | apply below_alloc | apply pw_below_drewN | apply below_drew1) | (repeat (first | exact HG.out | (with_reducible refine GlobOk.alloc ?_ _) | (with_reducible refine GlobOk.drewN ?_ _) | (with_reducible refine GlobOk.drew ?_))))
       (case side2 => repeat (first | exact (Kd.R_reads' HO_226001.out).2.2 | (with_reducible refine Kd.C_alloc ?_ _) | (with_reducible refine Kd.C_drewN ?_ _) | (with_reducible refine Kd.C_drew ?_)))
       (case side3 => exact (Kd.R_reads' HO_226001.out).2.1)
       (case side4 => exact Kd.C_nil _ _)
       (case side5 => exact Nat.le_refl _)
       rintro e w236 ⟨rfl, hb⟩
       refine ⟨_, rfl, ?_⟩
       replace HO_184001 := am (Kd.V_below (vU HO_184001.out) hb)
       replace HO_184002 := am (Kd.V_below (vU HO_184002.out) hb)
       replace HO_185001 := am (Kd.V_below (vU HO_185001.out) hb)
       replace HO_185002 := am (Kd.V_below (vU HO_185002.out) hb)
       replace HO_196002 := am (Kd.N_below (nU HO_196002.out) hb)
       replace HO_214002 := am (Kd.N_below (nU HO_214002.out) hb)
       replace HO_218001 := am (Kd.R_below (rU HO_218001.out) hb)
       replace HO_222001 := am (Kd.R_below (rU HO_222001.out) hb)
       replace HO_226001 := am (Kd.R_below (rU HO_226001.out) hb)
       replace BK183 := am (blk_below (bU BK183.out) hb)
       replace BK184 := am (blk_below (bU BK184.out) hb)
       replace BK195 := am (blk_below (bU BK195.out) hb)
       replace BK213 := am (blk_below (bU BK213.out) hb)
       replace BK217 := am (blk_below (bU BK217.out) hb)
       replace BK221 := am (blk_below (bU BK221.out) hb)
       replace BK225 := am (blk_below (bU BK225.out) hb)
       replace HB := am (below_step (by repeat first | exact lU HB.out | refine below_set ?_ (Aside0.out (by assumption)) | apply below_alloc | apply pw_below_drewN | apply below_drew1) hb)
       (try clear hb)
       (try clear hb2)
       (try clear hk)
       (try clear hi)
       refine hK.out _ _ ⟨(blk_cell BK225.out 0).trans rfl, (blk_cell BK225.out 1).trans rfl, (blk_cell BK225.out 2).trans rfl, (blk_cell BK221.out 0).trans rfl, (blk_cell BK221.out 1).trans rfl, (blk_cell BK221.out 2).trans rfl, (blk_cell BK217.out 0).trans rfl, (blk_cell BK217.out 1).trans rfl, (blk_cell BK217.out 2).trans rfl⟩ (fun hHeld => ?_)
       clear hK K
       refine norm_ (a' := ?_) ?_ ?_
       rotate_left
       ·show Act.put _ (some 93) _ = _
        simp only [Act.put, List.setIfInBounds_toArray, List.set_cons_zero, List.set_cons_succ, i64_w, i32_w]
        rfl
       refine one_ (i := 5) (N := some 96) #[true, true, true, true, true, true, false, false, false, false, false, false, false, false, false, false, false, false] rfl rfl (one_of HT_.out (by kernel_rfl)) (by decide) (fun K hK => ?_)
       refine goes_ Try.func25 (by kernel_rfl) rfl #[.agg #[.int .i64 1, .slice Ao95 y218.length co95, .slice none 0 0], .string a3] (by rfl) rfl rfl (by (try simp only [List.map_toArray, List.map_cons, List.map_nil]); first | done | rfl | (simp only [List.length_drop, List.length_take]; rfl)) ?_
       refine (eval_Match.calls kj51 1 _ _ y218 _ _ ([] : List (S40)) a3 t238 _ ?side1 ?side2 ?side3 ?side4 ?side5 A222.out).mono ?_
       (case side1 => first | exact GlobOk.below HG.out (by repeat first | exact lU HB.out | refine below_set ?_ (Aside0.out (by assumption)) | apply below_alloc | apply pw_below_drewN | apply below_drew1) | (repeat (first | exact HG.out | (with_reducible refine GlobOk.alloc ?_ _) | (with_reducible refine GlobOk.drewN ?_ _) | (with_reducible refine GlobOk.drew ?_))))
       (case side2 => repeat (first | exact (Kd.R_reads' HO_222001.out).2.2 | (with_reducible refine Kd.C_alloc ?_ _) | (with_reducible refine Kd.C_drewN ?_ _) | (with_reducible refine Kd.C_drew ?_)))
       (case side3 => exact (Kd.R_reads' HO_222001.out).2.1)
       (case side4 => exact Kd.C_nil _ _)
       (case side5 => exact Nat.le_refl _)
       rintro e w237 ⟨rfl, hb⟩
       refine ⟨_, rfl, ?_⟩
       replace HO_184001 := am (Kd.V_below (vU HO_184001.out) hb)
       replace HO_184002 := am (Kd.V_below (vU HO_184002.out) hb)
       replace HO_185001 := am (Kd.V_below (vU HO_185001.out) hb)
       replace HO_185002 := am (Kd.V_below (vU HO_185002.out) hb)
       replace HO_196002 := am (Kd.N_below (nU HO_196002.out) hb)
       replace HO_214002 := am (Kd.N_below (nU HO_214002.out) hb)
       replace HO_218001 := am (Kd.R_below (rU HO_218001.out) hb)
       replace HO_222001 := am (Kd.R_below (rU HO_222001.out) hb)
       replace HO_226001 := am (Kd.R_below (rU HO_226001.out) hb)
       replace BK183 := am (blk_below (bU BK183.out) hb)
       replace BK184 := am (blk_below (bU BK184.out) hb)
       replace BK195 := am (blk_below (bU BK195.out) hb)
       replace BK213 := am (blk_below (bU BK213.out) hb)
       replace BK217 := am (blk_below (bU BK217.out) hb)
       replace BK221 := am (blk_below (bU BK221.out) hb)
       replace BK225 := am (blk_below (bU BK225.out) hb)
       replace HB := am (below_step (by repeat first | exact lU HB.out | refine below_set ?_ (Aside0.out (by assumption)) | apply below_alloc | apply pw_below_drewN | apply below_drew1) hb)
       (try clear hb)
       (try clear hb2)
       (try clear hk)
       (try clear hi)
       refine hK.out _ _ ⟨(blk_cell BK225.out 0).trans rfl, (blk_cell BK225.out 1).trans rfl, (blk_cell BK225.out 2).trans rfl, (blk_cell BK221.out 0).trans rfl, (blk_cell BK221.out 1).trans rfl, (blk_cell BK221.out 2).trans rfl, (blk_cell BK217.out 0).trans rfl, (blk_cell BK217.out 1).trans rfl, (blk_cell BK217.out 2).trans rfl⟩ (fun hHeld => ?_)
       clear hK K
       refine norm_ (a' := ?_) ?_ ?_
       rotate_left
       ·show Act.put _ (some 96) _ = _
        simp only [Act.put, List.setIfInBounds_toArray, List.set_cons_zero, List.set_cons_succ, i64_w, i32_w]
        rfl
       refine pure_ (i := 6) (N := some 97) (v := ?_) (a' := ?_) #[true, true, true, true, true, true, true, false, false, false, false, false, false, false, false, false, false, false] rfl rfl (any_of HT_.out (by kernel_rfl)) (fun _ _ _ h => h) (Or.inl ⟨by rfl, ?_⟩) ?_ ?_
       rotate_left
       ·intro w'
        go_simp
        with_reducible rfl
       rotate_left
       ·simp only [Act.put, List.setIfInBounds_toArray, List.set_cons_zero, List.set_cons_succ, i64_w, i32_w]
        rfl
       refine pure_ (i := 7) (N := some 98) (v := ?_) (a' := ?_) #[true, true, true, true, true, true, true, true, false, false, false, false, false, false, false, false, false, false] rfl rfl (any_of HT_.out (by kernel_rfl)) (fun _ _ _ h => h) (Or.inl ⟨by rfl, ?_⟩) ?_ ?_
       rotate_left
       ·intro w'
        go_simp
        with_reducible rfl
       rotate_left
       ·simp only [Act.put, List.setIfInBounds_toArray, List.set_cons_zero, List.set_cons_succ, i64_w, i32_w]
        rfl
       refine pure_ (i := 9) (N := some 100) (v := ?_) (a' := ?_) #[true, true, true, true, true, true, true, true, false, true, false, false, false, false, false, false, false, false] rfl rfl (any_of HT_.out (by kernel_rfl)) (fun _ _ _ h => h) (Or.inl ⟨by rfl, ?_⟩) ?_ ?_
       rotate_left
       ·intro w'
        go_simp
        with_reducible rfl
       rotate_left
       ·simp only [Act.put, List.setIfInBounds_toArray, List.set_cons_zero, List.set_cons_succ, i64_w, i32_w]
        rfl
       refine take_ (i := 8) (N := some 99) (v := ?_) (a' := ?_) #[true, true, true, true, true, true, true, true, true, true, false, false, false, false, false, false, false, false] rfl rfl (take_ofW HT_.out HW_.out (by kernel_rfl)) (fun _ _ _ h => h) (Or.inl ⟨by rfl, ?_⟩) hHeld ?_ ?_
       rotate_left
       ·rintro w' ⟨s0, s1, s2, s3, s4, s5, s6, s7, s8⟩
        go_simp
        with_reducible rfl
       rotate_left
       ·simp only [Act.put, List.setIfInBounds_toArray, List.set_cons_zero, List.set_cons_succ, i64_w, i32_w]
        rfl
       refine one_ (i := 10) (N := some 101) #[true, true, true, true, true, true, true, true, true, true, true, false, false, false, false, false, false, false] rfl rfl (one_of HT_.out (by kernel_rfl)) (by decide) (fun K hK => ?_)
       refine goes_ Try.func25 (by kernel_rfl) rfl #[.agg #[.int .i64 2, .slice Ao86 y214.length co86, .slice none 0 0], .string a3] (by rfl) rfl rfl (by (try simp only [List.map_toArray, List.map_cons, List.map_nil]); first | done | rfl | (simp only [List.length_drop, List.length_take]; rfl)) ?_
       refine (eval_Match.calls kj51 2 _ _ y214 _ _ ([] : List (S40)) a3 false _ ?side1 ?side2 ?side3 ?side4 ?side5 A227.out).mono ?_
       (case side1 => first | exact GlobOk.below HG.out (by repeat first | exact lU HB.out | refine below_set ?_ (Aside0.out (by assumption)) | apply below_alloc | apply pw_below_drewN | apply below_drew1) | (repeat (first | exact HG.out | (with_reducible refine GlobOk.alloc ?_ _) | (with_reducible refine GlobOk.drewN ?_ _) | (with_reducible refine GlobOk.drew ?_))))
       (case side2 => repeat (first | exact (Kd.R_reads' HO_218001.out).2.2 | (with_reducible refine Kd.C_alloc ?_ _) | (with_reducible refine Kd.C_drewN ?_ _) | (with_reducible refine Kd.C_drew ?_)))
       (case side3 => exact (Kd.R_reads' HO_218001.out).2.1)
       (case side4 => exact Kd.C_nil _ _)
       (case side5 => exact Nat.le_refl _)
       rintro e w238 ⟨rfl, hb⟩
       refine ⟨_, rfl, ?_⟩
       replace HO_184001 := am (Kd.V_below (vU HO_184001.out) hb)
       replace HO_184002 := am (Kd.V_below (vU HO_184002.out) hb)
       replace HO_185001 := am (Kd.V_below (vU HO_185001.out) hb)
       replace HO_185002 := am (Kd.V_below (vU HO_185002.out) hb)
       replace HO_196002 := am (Kd.N_below (nU HO_196002.out) hb)
       replace HO_214002 := am (Kd.N_below (nU HO_214002.out) hb)
       replace HO_218001 := am (Kd.R_below (rU HO_218001.out) hb)
       replace HO_222001 := am (Kd.R_below (rU HO_222001.out) hb)
       replace HO_226001 := am (Kd.R_below (rU HO_226001.out) hb)
       replace BK183 := am (blk_below (bU BK183.out) hb)
       replace BK184 := am (blk_below (bU BK184.out) hb)
       replace BK195 := am (blk_below (bU BK195.out) hb)
       replace BK213 := am (blk_below (bU BK213.out) hb)
       replace BK217 := am (blk_below (bU BK217.out) hb)
       replace BK221 := am (blk_below (bU BK221.out) hb)
       replace BK225 := am (blk_below (bU BK225.out) hb)
       replace HB := am (below_step (by repeat first | exact lU HB.out | refine below_set ?_ (Aside0.out (by assumption)) | apply below_alloc | apply pw_below_drewN | apply below_drew1) hb)
       (try clear hb)
       (try clear hb2)
       (try clear hk)
       (try clear hi)
       refine hK.out _ _ ⟨(blk_cell BK225.out 0).trans rfl, (blk_cell BK225.out 1).trans rfl, (blk_cell BK225.out 2).trans rfl, (blk_cell BK221.out 0).trans rfl, (blk_cell BK221.out 1).trans rfl, (blk_cell BK221.out 2).trans rfl, (blk_cell BK217.out 0).trans rfl, (blk_cell BK217.out 1).trans rfl, (blk_cell BK217.out 2).trans rfl⟩ (fun hHeld => ?_)
       clear hK K
       refine norm_ (a' := ?_) ?_ ?_
       rotate_left
       ·show Act.put _ (some 101) _ = _
        simp only [Act.put, List.setIfInBounds_toArray, List.set_cons_zero, List.set_cons_succ, i64_w, i32_w]
        rfl
       refine pure_ (i := 11) (N := some 102) (v := ?_) (a' := ?_) #[true, true, true, true, true, true, true, true, true, true, true, true, false, false, false, false, false, false] rfl rfl (any_of HT_.out (by kernel_rfl)) (fun _ _ _ h => h) (Or.inl ⟨by rfl, ?_⟩) ?_ ?_
       rotate_left
       ·intro w'
        go_simp
        with_reducible rfl
       rotate_left
       ·simp only [Act.put, List.setIfInBounds_toArray, List.set_cons_zero, List.set_cons_succ, i64_w, i32_w]
        rfl
       refine pure_ (i := 12) (N := some 103) (v := undef) (a' := ?_) #[true, true, true, true, true, true, true, true, true, true, true, true, true, false, false, false, false, false] rfl rfl (any_of HT_.out (by kernel_rfl)) (fun _ _ _ h => h) (Or.inr ⟨by rfl, rfl⟩) ?_ ?_
       rotate_left
       ·simp only [Act.put, List.setIfInBounds_toArray, List.set_cons_zero, List.set_cons_succ, i64_w, i32_w]
        rfl
       refine pure_ (i := 13) (N := some 104) (v := undef) (a' := ?_) #[true, true, true, true, true, true, true, true, true, true, true, true, true, true, false, false, false, false] rfl rfl (any_of HT_.out (by kernel_rfl)) (fun _ _ _ h => h) (Or.inr ⟨by rfl, rfl⟩) ?_ ?_
       rotate_left
       ·simp only [Act.put, List.setIfInBounds_toArray, List.set_cons_zero, List.set_cons_succ, i64_w, i32_w]
        rfl
       refine pure_ (i := 14) (N := some 105) (v := undef) (a' := ?_) #[true, true, true, true, true, true, true, true, true, true, true, true, true, true, true, false, false, false] rfl rfl (any_of HT_.out (by kernel_rfl)) (fun _ _ _ h => h) (Or.inr ⟨by rfl, rfl⟩) ?_ ?_
       rotate_left
       ·simp only [Act.put, List.setIfInBounds_toArray, List.set_cons_zero, List.set_cons_succ, i64_w, i32_w]
        rfl
       refine pure_ (i := 15) (N := some 106) (v := undef) (a' := ?_) #[true, true, true, true, true, true, true, true, true, true, true, true, true, true, true, true, false, false] rfl rfl (any_of HT_.out (by kernel_rfl)) (fun _ _ _ h => h) (Or.inr ⟨by rfl, rfl⟩) ?_ ?_
       rotate_left
       ·simp only [Act.put, List.setIfInBounds_toArray, List.set_cons_zero, List.set_cons_succ, i64_w, i32_w]
        rfl
       refine pure_ (i := 16) (N := some 107) (v := ?_) (a' := ?_) #[true, true, true, true, true, true, true, true, true, true, true, true, true, true, true, true, true, false] rfl rfl (any_of HT_.out (by kernel_rfl)) (fun _ _ _ h => h) (Or.inl ⟨by rfl, ?_⟩) ?_ ?_
       rotate_left
       ·intro w'
        go_simp
        with_reducible rfl
       rotate_left
       ·simp only [Act.put, List.setIfInBounds_toArray, List.set_cons_zero, List.set_cons_succ, i64_w, i32_w]
        rfl
       refine pure_ (i := 17) (N := some 108) (v := ?_) (a' := ?_) #[true, true, true, true, true, true, true, true, true, true, true, true, true, true, true, true, true, true] rfl rfl (any_of HT_.out (by kernel_rfl)) (fun _ _ _ h => h) (Or.inl ⟨by rfl, ?_⟩) ?_ ?_
       rotate_left
       ·intro w'
        go_simp
        with_reducible rfl
       rotate_left
       ·simp only [Act.put, List.setIfInBounds_toArray, List.set_cons_zero, List.set_cons_succ, i64_w, i32_w]
        rfl
       refine done_ (done_of HT_.out (by kernel_rfl)) ?_
       try go_wp2
       go_meet
       case rel => exact ⟨_, (false), (by first | rfl | (simp; done) | (simp [*]; done)), H', ⟨by have := HJ5.out; have := HJ51.out; first | omega | exact Nat.le_refl _⟩, ⟨by (with_reducible repeat (first | apply Kd.V_alloc | apply Kd.V_drewN | apply Kd.V_drew)); exact HO_184001.out⟩, ⟨by (with_reducible repeat (first | apply Kd.V_alloc | apply Kd.V_drewN | apply Kd.V_drew)); exact HO_184002.out⟩, ⟨by (with_reducible repeat (first | apply Kd.V_alloc | apply Kd.V_drewN | apply Kd.V_drew)); exact HO_185001.out⟩, ⟨by (with_reducible repeat (first | apply Kd.V_alloc | apply Kd.V_drewN | apply Kd.V_drew)); exact HO_185002.out⟩, ⟨by (with_reducible repeat (first | apply Kd.N_alloc | apply Kd.N_drewN | apply Kd.N_drew)); exact HO_196002.out⟩, ⟨by (with_reducible repeat (first | apply Kd.N_alloc | apply Kd.N_drewN | apply Kd.N_drew)); exact HO_214002.out⟩, ⟨by (with_reducible repeat (first | apply Kd.R_alloc | apply Kd.R_drewN | apply Kd.R_drew)); exact HO_218001.out⟩, ⟨by (with_reducible repeat (first | apply Kd.R_alloc | apply Kd.R_drewN | apply Kd.R_drew)); exact HO_222001.out⟩, ⟨by (with_reducible repeat (first | apply Kd.R_alloc | apply Kd.R_drewN | apply Kd.R_drew)); exact HO_226001.out⟩, ⟨by (with_reducible repeat (first | refine blk_drewN ?_ _ | refine blk_drew ?_ | refine blk_alloc ?_ _)); exact BK183.out⟩, ⟨by (with_reducible repeat (first | refine blk_drewN ?_ _ | refine blk_drew ?_ | refine blk_alloc ?_ _)); exact BK184.out⟩, ⟨by (with_reducible repeat (first | refine blk_drewN ?_ _ | refine blk_drew ?_ | refine blk_alloc ?_ _)); exact BK195.out⟩, ⟨by (with_reducible repeat (first | refine blk_drewN ?_ _ | refine blk_drew ?_ | refine blk_alloc ?_ _)); exact BK213.out⟩, ⟨by (with_reducible repeat (first | refine blk_drewN ?_ _ | refine blk_drew ?_ | refine blk_alloc ?_ _)); exact BK217.out⟩, ⟨by (with_reducible repeat (first | refine blk_drewN ?_ _ | refine blk_drew ?_ | refine blk_alloc ?_ _)); exact BK221.out⟩, ⟨by (with_reducible repeat (first | refine blk_drewN ?_ _ | refine blk_drew ?_ | refine blk_alloc ?_ _)); exact BK225.out⟩, ⟨by repeat (first | (with_reducible first | exact HB.out | apply below_alloc | apply pw_below_drewN | apply below_drew1 | refine below_set ?_ (Aside0.out (by assumption))) | exact HB.out)⟩⟩
    case rest =>
     clear HC220
     try clear c1
     try clear c2
     try clear p2
     try clear c22
     try clear c25
     try clear c228
     obtain ⟨kq, x108_219, rfl, HA, HJ219, HO_184001, HO_184002, HO_185001, HO_185002, HO_196002, HO_214002, HO_218001, HO_222001, HO_226001, BK183, BK184, BK195, BK213, BK217, BK221, BK225, HB⟩ := hcut
     cases kq with
     | zero => exact absurd HA.out (by simp [verbatimlaw20_EvalLaws.j2])
     | succ kj219 =>
      have H := HA.out
      clear HA
      simp only [verbatimlaw20_EvalLaws.j2] at H
      by_cases c239 : x108_219 = true
      ·subst c239
       have H1 : (some false) = some r := by rw [if_pos rfl] at H; exact H
       clear H
       have H := H1
       clear H1
       obtain rfl := Option.some.inj H
       go_wp2
       go_ret
       exact ⟨by first | rfl | (simp [errW_none, errW_some] <;> rfl) | (simp [*, errW_none, errW_some] <;> rfl), by repeat (first | (with_reducible first | exact HB.out | apply below_alloc | apply pw_below_drewN | apply below_drew1 | refine below_set ?_ (Aside0.out (by assumption))) | exact HB.out)⟩
      ·replace c239 := Bool.eq_false_iff.mpr c239
       subst c239
       have H1 : (if t185 = true then (if a2.size + a3.size ≤ 9223372036854775807 then ((eval_Match.f kj219 2 y214 ([] : List (S40)) (a2 ++ a3)).bind fun t241 => (if t241 = true then (if a3.size + a2.size ≤ 9223372036854775807 then ((eval_Match.f kj219 1 y218 ([] : List (S40)) (a3 ++ a2)).bind fun t242 => (if t242 = true then ((verbatimlaw20_no.f 4 ([] : List ByteArray) y192).bind fun bt243 => ((eval_Match.f kj219 bt243.1 bt243.2.1 bt243.2.2 a3).bind fun t250 => ((eval_Match.f kj219 5 ([] : List ByteArray) y210 a3).bind fun t251 => (some (t250 == t251))))) else (some false))) else (none)) else (some false))) else (none)) else (some false)) = some r := by rw [if_neg (show ¬ (false = true) by decide)] at H; exact H
       clear H
       have H := H1
       clear H1
       by_cases c240 : t185 = true
       ·subst c240
        have H1 : (if a2.size + a3.size ≤ 9223372036854775807 then ((eval_Match.f kj219 2 y214 ([] : List (S40)) (a2 ++ a3)).bind fun t241 => (if t241 = true then (if a3.size + a2.size ≤ 9223372036854775807 then ((eval_Match.f kj219 1 y218 ([] : List (S40)) (a3 ++ a2)).bind fun t242 => (if t242 = true then ((verbatimlaw20_no.f 4 ([] : List ByteArray) y192).bind fun bt243 => ((eval_Match.f kj219 bt243.1 bt243.2.1 bt243.2.2 a3).bind fun t250 => ((eval_Match.f kj219 5 ([] : List ByteArray) y210 a3).bind fun t251 => (some (t250 == t251))))) else (some false))) else (none)) else (some false))) else (none)) = some r := by rw [if_pos rfl] at H; exact H
        clear H
        have H := H1
        clear H1
        by_cases c241 : a2.size + a3.size ≤ 9223372036854775807
        ·rw [if_pos c241] at H
         have c241b0 := eq_true c241
         have c241b1 : decide (a2.size + a3.size ≤ 9223372036854775807) = true := decide_eq_true c241
         try have c241b2 : (9223372036854775807 < a2.size + a3.size) = False := eq_false (Nat.not_lt.2 c241)
         replace H := Option.bind_eq_some_iff.mp H
         obtain ⟨t241, A2420, H⟩ := H
         replace H : (if t241 = true then (if a3.size + a2.size ≤ 9223372036854775807 then ((eval_Match.f kj219 1 y218 ([] : List (S40)) (a3 ++ a2)).bind fun t242 => (if t242 = true then ((verbatimlaw20_no.f 4 ([] : List ByteArray) y192).bind fun bt243 => ((eval_Match.f kj219 bt243.1 bt243.2.1 bt243.2.2 a3).bind fun t250 => ((eval_Match.f kj219 5 ([] : List ByteArray) y210 a3).bind fun t251 => (some (t250 == t251))))) else (some false))) else (none)) else (some false)) = some r := H
         have A242 := am A2420
         clear A2420
         by_cases c243 : t241 = true
         ·subst c243
          have H1 : (if a3.size + a2.size ≤ 9223372036854775807 then ((eval_Match.f kj219 1 y218 ([] : List (S40)) (a3 ++ a2)).bind fun t242 => (if t242 = true then ((verbatimlaw20_no.f 4 ([] : List ByteArray) y192).bind fun bt243 => ((eval_Match.f kj219 bt243.1 bt243.2.1 bt243.2.2 a3).bind fun t250 => ((eval_Match.f kj219 5 ([] : List ByteArray) y210 a3).bind fun t251 => (some (t250 == t251))))) else (some false))) else (none)) = some r := by rw [if_pos rfl] at H; exact H
          clear H
          have H := H1
          clear H1
          by_cases c244 : a3.size + a2.size ≤ 9223372036854775807
          ·rw [if_pos c244] at H
           have c244b0 := eq_true c244
           have c244b1 : decide (a3.size + a2.size ≤ 9223372036854775807) = true := decide_eq_true c244
           try have c244b2 : (9223372036854775807 < a3.size + a2.size) = False := eq_false (Nat.not_lt.2 c244)
           replace H := Option.bind_eq_some_iff.mp H
           obtain ⟨t242, A2450, H⟩ := H
           replace H : (if t242 = true then ((verbatimlaw20_no.f 4 ([] : List ByteArray) y192).bind fun bt243 => ((eval_Match.f kj219 bt243.1 bt243.2.1 bt243.2.2 a3).bind fun t250 => ((eval_Match.f kj219 5 ([] : List ByteArray) y210 a3).bind fun t251 => (some (t250 == t251))))) else (some false)) = some r := H
           have A245 := am A2450
           clear A2450
           by_cases c246 : t242 = true
           ·subst c246
            have H1 : ((verbatimlaw20_no.f 4 ([] : List ByteArray) y192).bind fun bt243 => ((eval_Match.f kj219 bt243.1 bt243.2.1 bt243.2.2 a3).bind fun t250 => ((eval_Match.f kj219 5 ([] : List ByteArray) y210 a3).bind fun t251 => (some (t250 == t251))))) = some r := by rw [if_pos rfl] at H; exact H
            clear H
            have H := H1
            clear H1
            replace H := Option.bind_eq_some_iff.mp H
            obtain ⟨⟨t243, t244, t247⟩, A2470, H⟩ := H
            replace H : ((eval_Match.f kj219 t243 t244 t247 a3).bind fun t250 => ((eval_Match.f kj219 5 ([] : List ByteArray) y210 a3).bind fun t251 => (some (t250 == t251)))) = some r := H
            have A247 := am A2470
            clear A2470
            replace H := Option.bind_eq_some_iff.mp H
            obtain ⟨t250, A2480, H⟩ := H
            replace H : ((eval_Match.f kj219 5 ([] : List ByteArray) y210 a3).bind fun t251 => (some (t250 == t251))) = some r := H
            have A248 := am A2480
            clear A2480
            replace H := Option.bind_eq_some_iff.mp H
            obtain ⟨t251, A2490, H⟩ := H
            replace H : (some (t250 == t251)) = some r := H
            have A249 := am A2490
            clear A2490
            obtain rfl := Option.some.inj H
            try go_wp2
            replace HO_184001 := am (Kd.V_drew HO_184001.out)
            replace HO_184002 := am (Kd.V_drew HO_184002.out)
            replace HO_185001 := am (Kd.V_drew HO_185001.out)
            replace HO_185002 := am (Kd.V_drew HO_185002.out)
            replace HO_196002 := am (Kd.N_drew HO_196002.out)
            replace HO_214002 := am (Kd.N_drew HO_214002.out)
            replace HO_218001 := am (Kd.R_drew HO_218001.out)
            replace HO_222001 := am (Kd.R_drew HO_222001.out)
            replace HO_226001 := am (Kd.R_drew HO_226001.out)
            replace BK183 := am (blk_drew BK183.out)
            replace BK184 := am (blk_drew BK184.out)
            replace BK195 := am (blk_drew BK195.out)
            replace BK213 := am (blk_drew BK213.out)
            replace BK217 := am (blk_drew BK217.out)
            replace BK221 := am (blk_drew BK221.out)
            replace BK225 := am (blk_drew BK225.out)
            replace HB := am (below_drew1 HB.out)
            refine start_ (n := 26) (S := fun w' => w'.cell? ⟨gb217, 0, none⟩ = some (.int .i64 2) ∧ w'.cell? ⟨gb217, 1, none⟩ = some (.slice Ao86 y214.length co86) ∧ w'.cell? ⟨gb217, 2, none⟩ = some (.slice none 0 0) ∧ w'.cell? ⟨gb221, 0, none⟩ = some (.int .i64 1) ∧ w'.cell? ⟨gb221, 1, none⟩ = some (.slice Ao95 y218.length co95) ∧ w'.cell? ⟨gb221, 2, none⟩ = some (.slice none 0 0) ∧ w'.cell? ⟨gb195, 0, none⟩ = some (.int .i64 4) ∧ w'.cell? ⟨gb195, 1, none⟩ = some (.slice none 0 0) ∧ w'.cell? ⟨gb195, 2, none⟩ = some (.slice Ao62 y192.length co62) ∧ w'.cell? ⟨gb213, 0, none⟩ = some (.int .i64 5) ∧ w'.cell? ⟨gb213, 1, none⟩ = some (.slice none 0 0) ∧ w'.cell? ⟨gb213, 2, none⟩ = some (.slice Ao80 y210.length co80)) (ds := []) #[false, false, false, false, false, false, false, false, false, false, false, false, false, false, false, false, false, false, false, false, false, false, false, false, false, false] (by kernel_rfl) rfl rfl ⟨(blk_cell BK217.out 0).trans rfl, (blk_cell BK217.out 1).trans rfl, (blk_cell BK217.out 2).trans rfl, (blk_cell BK221.out 0).trans rfl, (blk_cell BK221.out 1).trans rfl, (blk_cell BK221.out 2).trans rfl, (blk_cell BK195.out 0).trans rfl, (blk_cell BK195.out 1).trans rfl, (blk_cell BK195.out 2).trans rfl, (blk_cell BK213.out 0).trans rfl, (blk_cell BK213.out 1).trans rfl, (blk_cell BK213.out 2).trans rfl⟩ (fun hHeld => ?_); refine with_tabW verbatimlaw20_EvalLaws.tab15 verbatimlaw20_EvalLaws.bits15 (fun HT_ HW_ => ?_)
            generalize wc.drew = w250 at HO_184001 HO_184002 HO_185001 HO_185002 HO_196002 HO_214002 HO_218001 HO_222001 HO_226001 BK183 BK184 BK195 BK213 BK217 BK221 BK225 HB hHeld ⊢
            refine pure_ (i := 0) (N := some 109) (v := ?_) (a' := ?_) #[true, false, false, false, false, false, false, false, false, false, false, false, false, false, false, false, false, false, false, false, false, false, false, false, false, false] rfl rfl (any_of HT_.out (by kernel_rfl)) (fun _ _ _ h => h) (Or.inl ⟨by rfl, ?_⟩) ?_ ?_
            rotate_left
            ·intro w'
             go_simp
             with_reducible rfl
            rotate_left
            ·simp only [Act.put, List.setIfInBounds_toArray, List.set_cons_zero, List.set_cons_succ, i64_w, i32_w]
             rfl
            refine pure_ (i := 1) (N := some 110) (v := ?_) (a' := ?_) #[true, true, false, false, false, false, false, false, false, false, false, false, false, false, false, false, false, false, false, false, false, false, false, false, false, false] rfl rfl (any_of HT_.out (by kernel_rfl)) (fun _ _ _ h => h) (Or.inl ⟨by rfl, ?_⟩) ?_ ?_
            rotate_left
            ·intro w'
             go_simp
             with_reducible rfl
            rotate_left
            ·simp only [Act.put, List.setIfInBounds_toArray, List.set_cons_zero, List.set_cons_succ, i64_w, i32_w]
             rfl
            refine pure_ (i := 3) (N := some 112) (v := ?_) (a' := ?_) #[true, true, false, true, false, false, false, false, false, false, false, false, false, false, false, false, false, false, false, false, false, false, false, false, false, false] rfl rfl (any_of HT_.out (by kernel_rfl)) (fun _ _ _ h => h) (Or.inl ⟨by rfl, ?_⟩) ?_ ?_
            rotate_left
            ·intro w'
             go_simp
             with_reducible rfl
            rotate_left
            ·simp only [Act.put, List.setIfInBounds_toArray, List.set_cons_zero, List.set_cons_succ, i64_w, i32_w]
             rfl
            refine pure_ (i := 4) (N := some 113) (v := ?_) (a' := ?_) #[true, true, false, true, true, false, false, false, false, false, false, false, false, false, false, false, false, false, false, false, false, false, false, false, false, false] rfl rfl (any_of HT_.out (by kernel_rfl)) (fun _ _ _ h => h) (Or.inl ⟨by rfl, ?_⟩) ?_ ?_
            rotate_left
            ·intro w'
             go_simp
             with_reducible rfl
            rotate_left
            ·simp only [Act.put, List.setIfInBounds_toArray, List.set_cons_zero, List.set_cons_succ, i64_w, i32_w]
             rfl
            refine pure_ (i := 5) (N := some 114) (v := ?_) (a' := ?_) #[true, true, false, true, true, true, false, false, false, false, false, false, false, false, false, false, false, false, false, false, false, false, false, false, false, false] rfl rfl (any_of HT_.out (by kernel_rfl)) (fun _ _ _ h => h) (Or.inl ⟨by rfl, ?_⟩) ?_ ?_
            rotate_left
            ·intro w'
             go_simp
             with_reducible rfl
            rotate_left
            ·simp only [Act.put, List.setIfInBounds_toArray, List.set_cons_zero, List.set_cons_succ, i64_w, i32_w]
             rfl
            refine take_ (i := 2) (N := some 111) (v := ?_) (a' := ?_) #[true, true, true, true, true, true, false, false, false, false, false, false, false, false, false, false, false, false, false, false, false, false, false, false, false, false] rfl rfl (take_ofW HT_.out HW_.out (by kernel_rfl)) (fun _ _ _ h => h) (Or.inl ⟨by rfl, ?_⟩) hHeld ?_ ?_
            rotate_left
            ·rintro w' ⟨s0, s1, s2, s3, s4, s5, s6, s7, s8, s9, s10, s11⟩
             go_simp
             with_reducible rfl
            rotate_left
            ·simp only [Act.put, List.setIfInBounds_toArray, List.set_cons_zero, List.set_cons_succ, i64_w, i32_w]
             rfl
            refine one_ (i := 6) (N := some 115) #[true, true, true, true, true, true, true, false, false, false, false, false, false, false, false, false, false, false, false, false, false, false, false, false, false, false] rfl rfl (one_of HT_.out (by kernel_rfl)) (by decide) (fun K hK => ?_)
            refine goes_ Try.func25 (by kernel_rfl) rfl #[.agg #[.int .i64 2, .slice Ao86 y214.length co86, .slice none 0 0], .string (a2 ++ a3)] (by rfl) rfl rfl (by (try simp only [List.map_toArray, List.map_cons, List.map_nil]); first | done | rfl | (simp only [List.length_drop, List.length_take]; rfl)) ?_
            refine (eval_Match.calls kj219 2 _ _ y214 _ _ ([] : List (S40)) (a2 ++ a3) true _ ?side1 ?side2 ?side3 ?side4 ?side5 A242.out).mono ?_
            (case side1 => first | exact GlobOk.below HG.out (by repeat first | exact lU HB.out | refine below_set ?_ (Aside0.out (by assumption)) | apply below_alloc | apply pw_below_drewN | apply below_drew1) | (repeat (first | exact HG.out | (with_reducible refine GlobOk.alloc ?_ _) | (with_reducible refine GlobOk.drewN ?_ _) | (with_reducible refine GlobOk.drew ?_))))
            (case side2 => repeat (first | exact (Kd.R_reads' HO_218001.out).2.2 | (with_reducible refine Kd.C_alloc ?_ _) | (with_reducible refine Kd.C_drewN ?_ _) | (with_reducible refine Kd.C_drew ?_)))
            (case side3 => exact (Kd.R_reads' HO_218001.out).2.1)
            (case side4 => exact Kd.C_nil _ _)
            (case side5 => exact Nat.le_refl _)
            rintro e w251 ⟨rfl, hb⟩
            refine ⟨_, rfl, ?_⟩
            replace HO_184001 := am (Kd.V_below (vU HO_184001.out) hb)
            replace HO_184002 := am (Kd.V_below (vU HO_184002.out) hb)
            replace HO_185001 := am (Kd.V_below (vU HO_185001.out) hb)
            replace HO_185002 := am (Kd.V_below (vU HO_185002.out) hb)
            replace HO_196002 := am (Kd.N_below (nU HO_196002.out) hb)
            replace HO_214002 := am (Kd.N_below (nU HO_214002.out) hb)
            replace HO_218001 := am (Kd.R_below (rU HO_218001.out) hb)
            replace HO_222001 := am (Kd.R_below (rU HO_222001.out) hb)
            replace HO_226001 := am (Kd.R_below (rU HO_226001.out) hb)
            replace BK183 := am (blk_below (bU BK183.out) hb)
            replace BK184 := am (blk_below (bU BK184.out) hb)
            replace BK195 := am (blk_below (bU BK195.out) hb)
            replace BK213 := am (blk_below (bU BK213.out) hb)
            replace BK217 := am (blk_below (bU BK217.out) hb)
            replace BK221 := am (blk_below (bU BK221.out) hb)
            replace BK225 := am (blk_below (bU BK225.out) hb)
            replace HB := am (below_step (by repeat first | exact lU HB.out | refine below_set ?_ (Aside0.out (by assumption)) | apply below_alloc | apply pw_below_drewN | apply below_drew1) hb)
            (try clear hb)
            (try clear hb2)
            (try clear hk)
            (try clear hi)
            refine hK.out _ _ ⟨(blk_cell BK217.out 0).trans rfl, (blk_cell BK217.out 1).trans rfl, (blk_cell BK217.out 2).trans rfl, (blk_cell BK221.out 0).trans rfl, (blk_cell BK221.out 1).trans rfl, (blk_cell BK221.out 2).trans rfl, (blk_cell BK195.out 0).trans rfl, (blk_cell BK195.out 1).trans rfl, (blk_cell BK195.out 2).trans rfl, (blk_cell BK213.out 0).trans rfl, (blk_cell BK213.out 1).trans rfl, (blk_cell BK213.out 2).trans rfl⟩ (fun hHeld => ?_)
            clear hK K
            refine norm_ (a' := ?_) ?_ ?_
            rotate_left
            ·show Act.put _ (some 115) _ = _
             simp only [Act.put, List.setIfInBounds_toArray, List.set_cons_zero, List.set_cons_succ, i64_w, i32_w]
             rfl
            refine pure_ (i := 7) (N := some 116) (v := ?_) (a' := ?_) #[true, true, true, true, true, true, true, true, false, false, false, false, false, false, false, false, false, false, false, false, false, false, false, false, false, false] rfl rfl (any_of HT_.out (by kernel_rfl)) (fun _ _ _ h => h) (Or.inl ⟨by rfl, ?_⟩) ?_ ?_
            rotate_left
            ·intro w'
             go_simp
             with_reducible rfl
            rotate_left
            ·simp only [Act.put, List.setIfInBounds_toArray, List.set_cons_zero, List.set_cons_succ, i64_w, i32_w]
             rfl
            refine pure_ (i := 8) (N := some 117) (v := ?_) (a' := ?_) #[true, true, true, true, true, true, true, true, true, false, false, false, false, false, false, false, false, false, false, false, false, false, false, false, false, false] rfl rfl (any_of HT_.out (by kernel_rfl)) (fun _ _ _ h => h) (Or.inl ⟨by rfl, ?_⟩) ?_ ?_
            rotate_left
            ·intro w'
             go_simp
             with_reducible rfl
            rotate_left
            ·simp only [Act.put, List.setIfInBounds_toArray, List.set_cons_zero, List.set_cons_succ, i64_w, i32_w]
             rfl
            refine pure_ (i := 10) (N := some 119) (v := ?_) (a' := ?_) #[true, true, true, true, true, true, true, true, true, false, true, false, false, false, false, false, false, false, false, false, false, false, false, false, false, false] rfl rfl (any_of HT_.out (by kernel_rfl)) (fun _ _ _ h => h) (Or.inl ⟨by rfl, ?_⟩) ?_ ?_
            rotate_left
            ·intro w'
             go_simp
             with_reducible rfl
            rotate_left
            ·simp only [Act.put, List.setIfInBounds_toArray, List.set_cons_zero, List.set_cons_succ, i64_w, i32_w]
             rfl
            refine pure_ (i := 11) (N := some 120) (v := ?_) (a' := ?_) #[true, true, true, true, true, true, true, true, true, false, true, true, false, false, false, false, false, false, false, false, false, false, false, false, false, false] rfl rfl (any_of HT_.out (by kernel_rfl)) (fun _ _ _ h => h) (Or.inl ⟨by rfl, ?_⟩) ?_ ?_
            rotate_left
            ·intro w'
             go_simp
             with_reducible rfl
            rotate_left
            ·simp only [Act.put, List.setIfInBounds_toArray, List.set_cons_zero, List.set_cons_succ, i64_w, i32_w]
             rfl
            refine pure_ (i := 12) (N := some 121) (v := ?_) (a' := ?_) #[true, true, true, true, true, true, true, true, true, false, true, true, true, false, false, false, false, false, false, false, false, false, false, false, false, false] rfl rfl (any_of HT_.out (by kernel_rfl)) (fun _ _ _ h => h) (Or.inl ⟨by rfl, ?_⟩) ?_ ?_
            rotate_left
            ·intro w'
             go_simp
             with_reducible rfl
            rotate_left
            ·simp only [Act.put, List.setIfInBounds_toArray, List.set_cons_zero, List.set_cons_succ, i64_w, i32_w]
             rfl
            refine take_ (i := 9) (N := some 118) (v := ?_) (a' := ?_) #[true, true, true, true, true, true, true, true, true, true, true, true, true, false, false, false, false, false, false, false, false, false, false, false, false, false] rfl rfl (take_ofW HT_.out HW_.out (by kernel_rfl)) (fun _ _ _ h => h) (Or.inl ⟨by rfl, ?_⟩) hHeld ?_ ?_
            rotate_left
            ·rintro w' ⟨s0, s1, s2, s3, s4, s5, s6, s7, s8, s9, s10, s11⟩
             go_simp
             with_reducible rfl
            rotate_left
            ·simp only [Act.put, List.setIfInBounds_toArray, List.set_cons_zero, List.set_cons_succ, i64_w, i32_w]
             rfl
            refine one_ (i := 13) (N := some 122) #[true, true, true, true, true, true, true, true, true, true, true, true, true, true, false, false, false, false, false, false, false, false, false, false, false, false] rfl rfl (one_of HT_.out (by kernel_rfl)) (by decide) (fun K hK => ?_)
            refine goes_ Try.func25 (by kernel_rfl) rfl #[.agg #[.int .i64 1, .slice Ao95 y218.length co95, .slice none 0 0], .string (a3 ++ a2)] (by rfl) rfl rfl (by (try simp only [List.map_toArray, List.map_cons, List.map_nil]); first | done | rfl | (simp only [List.length_drop, List.length_take]; rfl)) ?_
            refine (eval_Match.calls kj219 1 _ _ y218 _ _ ([] : List (S40)) (a3 ++ a2) true _ ?side1 ?side2 ?side3 ?side4 ?side5 A245.out).mono ?_
            (case side1 => first | exact GlobOk.below HG.out (by repeat first | exact lU HB.out | refine below_set ?_ (Aside0.out (by assumption)) | apply below_alloc | apply pw_below_drewN | apply below_drew1) | (repeat (first | exact HG.out | (with_reducible refine GlobOk.alloc ?_ _) | (with_reducible refine GlobOk.drewN ?_ _) | (with_reducible refine GlobOk.drew ?_))))
            (case side2 => repeat (first | exact (Kd.R_reads' HO_222001.out).2.2 | (with_reducible refine Kd.C_alloc ?_ _) | (with_reducible refine Kd.C_drewN ?_ _) | (with_reducible refine Kd.C_drew ?_)))
            (case side3 => exact (Kd.R_reads' HO_222001.out).2.1)
            (case side4 => exact Kd.C_nil _ _)
            (case side5 => exact Nat.le_refl _)
            rintro e w252 ⟨rfl, hb⟩
            refine ⟨_, rfl, ?_⟩
            replace HO_184001 := am (Kd.V_below (vU HO_184001.out) hb)
            replace HO_184002 := am (Kd.V_below (vU HO_184002.out) hb)
            replace HO_185001 := am (Kd.V_below (vU HO_185001.out) hb)
            replace HO_185002 := am (Kd.V_below (vU HO_185002.out) hb)
            replace HO_196002 := am (Kd.N_below (nU HO_196002.out) hb)
            replace HO_214002 := am (Kd.N_below (nU HO_214002.out) hb)
            replace HO_218001 := am (Kd.R_below (rU HO_218001.out) hb)
            replace HO_222001 := am (Kd.R_below (rU HO_222001.out) hb)
            replace HO_226001 := am (Kd.R_below (rU HO_226001.out) hb)
            replace BK183 := am (blk_below (bU BK183.out) hb)
            replace BK184 := am (blk_below (bU BK184.out) hb)
            replace BK195 := am (blk_below (bU BK195.out) hb)
            replace BK213 := am (blk_below (bU BK213.out) hb)
            replace BK217 := am (blk_below (bU BK217.out) hb)
            replace BK221 := am (blk_below (bU BK221.out) hb)
            replace BK225 := am (blk_below (bU BK225.out) hb)
            replace HB := am (below_step (by repeat first | exact lU HB.out | refine below_set ?_ (Aside0.out (by assumption)) | apply below_alloc | apply pw_below_drewN | apply below_drew1) hb)
            (try clear hb)
            (try clear hb2)
            (try clear hk)
            (try clear hi)
            refine hK.out _ _ ⟨(blk_cell BK217.out 0).trans rfl, (blk_cell BK217.out 1).trans rfl, (blk_cell BK217.out 2).trans rfl, (blk_cell BK221.out 0).trans rfl, (blk_cell BK221.out 1).trans rfl, (blk_cell BK221.out 2).trans rfl, (blk_cell BK195.out 0).trans rfl, (blk_cell BK195.out 1).trans rfl, (blk_cell BK195.out 2).trans rfl, (blk_cell BK213.out 0).trans rfl, (blk_cell BK213.out 1).trans rfl, (blk_cell BK213.out 2).trans rfl⟩ (fun hHeld => ?_)
            clear hK K
            refine norm_ (a' := ?_) ?_ ?_
            rotate_left
            ·show Act.put _ (some 122) _ = _
             simp only [Act.put, List.setIfInBounds_toArray, List.set_cons_zero, List.set_cons_succ, i64_w, i32_w]
             rfl
            refine pure_ (i := 14) (N := some 123) (v := ?_) (a' := ?_) #[true, true, true, true, true, true, true, true, true, true, true, true, true, true, true, false, false, false, false, false, false, false, false, false, false, false] rfl rfl (any_of HT_.out (by kernel_rfl)) (fun _ _ _ h => h) (Or.inl ⟨by rfl, ?_⟩) ?_ ?_
            rotate_left
            ·intro w'
             go_simp
             with_reducible rfl
            rotate_left
            ·simp only [Act.put, List.setIfInBounds_toArray, List.set_cons_zero, List.set_cons_succ, i64_w, i32_w]
             rfl
            refine pure_ (i := 15) (N := some 124) (v := ?_) (a' := ?_) #[true, true, true, true, true, true, true, true, true, true, true, true, true, true, true, true, false, false, false, false, false, false, false, false, false, false] rfl rfl (any_of HT_.out (by kernel_rfl)) (fun _ _ _ h => h) (Or.inl ⟨by rfl, ?_⟩) ?_ ?_
            rotate_left
            ·intro w'
             go_simp
             with_reducible rfl
            rotate_left
            ·simp only [Act.put, List.setIfInBounds_toArray, List.set_cons_zero, List.set_cons_succ, i64_w, i32_w]
             rfl
            refine pure_ (i := 18) (N := some 127) (v := ?_) (a' := ?_) #[true, true, true, true, true, true, true, true, true, true, true, true, true, true, true, true, false, false, true, false, false, false, false, false, false, false] rfl rfl (any_of HT_.out (by kernel_rfl)) (fun _ _ _ h => h) (Or.inl ⟨by rfl, ?_⟩) ?_ ?_
            rotate_left
            ·intro w'
             go_simp
             with_reducible rfl
            rotate_left
            ·simp only [Act.put, List.setIfInBounds_toArray, List.set_cons_zero, List.set_cons_succ, i64_w, i32_w]
             rfl
            refine pure_ (i := 21) (N := some 130) (v := ?_) (a' := ?_) #[true, true, true, true, true, true, true, true, true, true, true, true, true, true, true, true, false, false, true, false, false, true, false, false, false, false] rfl rfl (any_of HT_.out (by kernel_rfl)) (fun _ _ _ h => h) (Or.inl ⟨by rfl, ?_⟩) ?_ ?_
            rotate_left
            ·intro w'
             go_simp
             with_reducible rfl
            rotate_left
            ·simp only [Act.put, List.setIfInBounds_toArray, List.set_cons_zero, List.set_cons_succ, i64_w, i32_w]
             rfl
            refine take_ (i := 16) (N := some 125) (v := ?_) (a' := ?_) #[true, true, true, true, true, true, true, true, true, true, true, true, true, true, true, true, true, false, true, false, false, true, false, false, false, false] rfl rfl (take_ofW HT_.out HW_.out (by kernel_rfl)) (fun _ _ _ h => h) (Or.inl ⟨by rfl, ?_⟩) hHeld ?_ ?_
            rotate_left
            ·rintro w' ⟨s0, s1, s2, s3, s4, s5, s6, s7, s8, s9, s10, s11⟩
             go_simp
             with_reducible rfl
            rotate_left
            ·simp only [Act.put, List.setIfInBounds_toArray, List.set_cons_zero, List.set_cons_succ, i64_w, i32_w]
             rfl
            refine take_ (i := 20) (N := some 129) (v := ?_) (a' := ?_) #[true, true, true, true, true, true, true, true, true, true, true, true, true, true, true, true, true, false, true, false, true, true, false, false, false, false] rfl rfl (take_ofW HT_.out HW_.out (by kernel_rfl)) (fun _ _ _ h => h) (Or.inl ⟨by rfl, ?_⟩) hHeld ?_ ?_
            rotate_left
            ·rintro w' ⟨s0, s1, s2, s3, s4, s5, s6, s7, s8, s9, s10, s11⟩
             go_simp
             with_reducible rfl
            rotate_left
            ·simp only [Act.put, List.setIfInBounds_toArray, List.set_cons_zero, List.set_cons_succ, i64_w, i32_w]
             rfl
            refine one_ (i := 17) (N := some 126) #[true, true, true, true, true, true, true, true, true, true, true, true, true, true, true, true, true, true, true, false, true, true, false, false, false, false] rfl rfl (one_of HT_.out (by kernel_rfl)) (by decide) (fun K hK => ?_)
            refine goes_ Try.func28 (by kernel_rfl) rfl #[.agg #[.int .i64 4, .slice none 0 0, .slice Ao62 y192.length co62]] (by rfl) rfl rfl (by (try simp only [List.map_toArray, List.map_cons, List.map_nil]); first | done | rfl | (simp only [List.length_drop, List.length_take]; rfl)) ?_
            refine (verbatimlaw20_no.calls 4 (fun k_ => False) _ _ ([] : List ByteArray) (fun k_ => (((P0_1_ k_ ∨ P0_2_ k_ ∨ P1_1_ k_ ∨ P1_2_ k_) ∨ w.heap.size ≤ k_) ∧ (some k_ ≠ (.slice Ao80 y210.length co80 : Value).ownBlock ∧ (some k_ ≠ (.slice Ao86 y214.length co86 : Value).ownBlock ∧ (some k_ ≠ (.slice Ao95 y218.length co95 : Value).ownBlock ∧ (some k_ ≠ (.slice Ao105 y222.length co105 : Value).ownBlock ∧ (k_ ≠ gb183 ∧ (k_ ≠ gb184 ∧ (k_ ≠ gb195 ∧ (k_ ≠ gb213 ∧ (k_ ≠ gb217 ∧ (k_ ≠ gb221 ∧ k_ ≠ gb225)))))))))))) _ _ y192 t243 t244 t247 _ ?side1 ?side2 A247.out).mono ?_
            (case side1 => exact Kd.V_nil _ _ _ _ _)
            (case side2 => exact Kd.N_V (HO_196002.out))
            rintro e w253 ⟨v245, v248, rfl, ho0, ho1, hb⟩
            refine ⟨_, rfl, ?_⟩
            replace HO_184001 := am (Kd.V_mono (Kd.V_told (Kd.V_told (Kd.V_old (vU HO_184001.out) hb) (Kd.R_base ho0)) (Kd.N_base ho1)) (fun _ h_ => h_.1))
            replace HO_184002 := am (Kd.V_mono (Kd.V_told (Kd.V_told (Kd.V_old (vU HO_184002.out) hb) (Kd.R_base ho0)) (Kd.N_base ho1)) (fun _ h_ => h_.1))
            replace HO_185001 := am (Kd.V_mono (Kd.V_told (Kd.V_told (Kd.V_old (vU HO_185001.out) hb) (Kd.R_base ho0)) (Kd.N_base ho1)) (fun _ h_ => h_.1))
            replace HO_185002 := am (Kd.V_mono (Kd.V_told (Kd.V_told (Kd.V_old (vU HO_185002.out) hb) (Kd.R_base ho0)) (Kd.N_base ho1)) (fun _ h_ => h_.1))
            replace HO_196002 := am (Kd.N_mono (Kd.N_told (Kd.N_told (Kd.N_old (nU HO_196002.out) hb) (Kd.R_base ho0)) (Kd.N_base ho1)) (fun _ h_ => h_.1))
            have HO246 := am (Kd.R_lower (Kd.R_new' (Kd.R_new' (Kd.R_new' (Kd.R_newM (M := fun k_ => (w.heap.size ≤ k_)) (Kd.R_mono (ok' := fun k_ => True) ho0 (fun _ hk_ => trivial)) (below_size (by repeat first | exact lU HB.out | refine below_set ?_ (Aside0.out (by assumption)) | apply below_alloc | apply pw_below_drewN | apply below_drew1)) (fun k_ h_ => h_)) (Kd.R_lt (rU HO_218001.out))) (Kd.R_lt (rU HO_222001.out))) (Kd.R_lt (rU HO_226001.out))) (below_size (by repeat first | exact lU HB.out | refine below_set ?_ (Aside0.out (by assumption)) | apply below_alloc | apply pw_below_drewN | apply below_drew1)))
            have HO249 := am (Kd.N_lower (Kd.N_mono (ok' := fun k_ => ((P0_1_ k_ ∨ P0_2_ k_ ∨ P1_1_ k_ ∨ P1_2_ k_) ∨ w.heap.size ≤ k_) ∧ some k_ ≠ (v245 : Value).ownBlock ∧ some k_ ≠ (.slice Ao80 y210.length co80 : Value).ownBlock ∧ some k_ ≠ (.slice Ao86 y214.length co86 : Value).ownBlock ∧ some k_ ≠ (.slice Ao95 y218.length co95 : Value).ownBlock ∧ some k_ ≠ (.slice Ao105 y222.length co105 : Value).ownBlock ∧ k_ ≠ gb183 ∧ k_ ≠ gb184 ∧ k_ ≠ gb195 ∧ k_ ≠ gb213 ∧ k_ ≠ gb217 ∧ k_ ≠ gb221 ∧ k_ ≠ gb225) ho1 (fun k_ hk_ => ⟨Or.elim hk_.1 (fun hs_ => Or.elim hs_ (fun hs_ => (hs_).elim) (fun hs_ => hs_.1)) (fun hn_ => (.inr (Nat.le_trans (below_size (by repeat first | exact lU HB.out | refine below_set ?_ (Aside0.out (by assumption)) | apply below_alloc | apply pw_below_drewN | apply below_drew1)) hn_))), hk_.2, Or.elim hk_.1 (fun hs_ => Or.elim hs_ (fun hs_ => (hs_).elim) (fun hs_ => hs_.2.1)) (fun hn_ => (Kd.fresh' (Kd.N_lt (nU HO_214002.out)) k_ hn_)), Or.elim hk_.1 (fun hs_ => Or.elim hs_ (fun hs_ => (hs_).elim) (fun hs_ => hs_.2.2.1)) (fun hn_ => (Kd.fresh' (Kd.R_lt (rU HO_218001.out)) k_ hn_)), Or.elim hk_.1 (fun hs_ => Or.elim hs_ (fun hs_ => (hs_).elim) (fun hs_ => hs_.2.2.2.1)) (fun hn_ => (Kd.fresh' (Kd.R_lt (rU HO_222001.out)) k_ hn_)), Or.elim hk_.1 (fun hs_ => Or.elim hs_ (fun hs_ => (hs_).elim) (fun hs_ => hs_.2.2.2.2.1)) (fun hn_ => (Kd.fresh' (Kd.R_lt (rU HO_226001.out)) k_ hn_)), Or.elim hk_.1 (fun hs_ => Or.elim hs_ (fun hs_ => (hs_).elim) (fun hs_ => hs_.2.2.2.2.2.1)) (fun hn_ => (Kd.freshB (g := gb183) (o := .cells #[.int .i64 a0_0, .slice A0_1 l0_1.length c0_1, .slice A0_2 l0_2.length c0_2] 40 (0, 0)) (bU BK183.out) k_ hn_)), Or.elim hk_.1 (fun hs_ => Or.elim hs_ (fun hs_ => (hs_).elim) (fun hs_ => hs_.2.2.2.2.2.2.1)) (fun hn_ => (Kd.freshB (g := gb184) (o := .cells #[.int .i64 a1_0, .slice A1_1 l1_1.length c1_1, .slice A1_2 l1_2.length c1_2] 40 (0, 0)) (bU BK184.out) k_ hn_)), Or.elim hk_.1 (fun hs_ => Or.elim hs_ (fun hs_ => (hs_).elim) (fun hs_ => hs_.2.2.2.2.2.2.2.1)) (fun hn_ => (Kd.freshB (g := gb195) (o := .cells #[.int .i64 4, .slice none 0 0, .slice Ao62 y192.length co62] 40 (0, 0)) (bU BK195.out) k_ hn_)), Or.elim hk_.1 (fun hs_ => Or.elim hs_ (fun hs_ => (hs_).elim) (fun hs_ => hs_.2.2.2.2.2.2.2.2.1)) (fun hn_ => (Kd.freshB (g := gb213) (o := .cells #[.int .i64 5, .slice none 0 0, .slice Ao80 y210.length co80] 40 (0, 0)) (bU BK213.out) k_ hn_)), Or.elim hk_.1 (fun hs_ => Or.elim hs_ (fun hs_ => (hs_).elim) (fun hs_ => hs_.2.2.2.2.2.2.2.2.2.1)) (fun hn_ => (Kd.freshB (g := gb217) (o := .cells #[.int .i64 2, .slice Ao86 y214.length co86, .slice none 0 0] 40 (0, 0)) (bU BK217.out) k_ hn_)), Or.elim hk_.1 (fun hs_ => Or.elim hs_ (fun hs_ => (hs_).elim) (fun hs_ => hs_.2.2.2.2.2.2.2.2.2.2.1)) (fun hn_ => (Kd.freshB (g := gb221) (o := .cells #[.int .i64 1, .slice Ao95 y218.length co95, .slice none 0 0] 40 (0, 0)) (bU BK221.out) k_ hn_)), Or.elim hk_.1 (fun hs_ => Or.elim hs_ (fun hs_ => (hs_).elim) (fun hs_ => hs_.2.2.2.2.2.2.2.2.2.2.2)) (fun hn_ => (Kd.freshB (g := gb225) (o := .cells #[.int .i64 3, .slice Ao105 y222.length co105, .slice none 0 0] 40 (0, 0)) (bU BK225.out) k_ hn_))⟩)) (below_size (by repeat first | exact lU HB.out | refine below_set ?_ (Aside0.out (by assumption)) | apply below_alloc | apply pw_below_drewN | apply below_drew1)))
            replace HO_214002 := am (Kd.N_mono (Kd.N_told (Kd.N_told (Kd.N_old (nU HO_214002.out) hb) (Kd.R_base ho0)) (Kd.N_base ho1)) (fun _ h_ => h_.1))
            replace HO_218001 := am (Kd.R_elder' (rU HO_218001.out) (Kd.R_base ho0) hb)
            replace HO_222001 := am (Kd.R_elder' (rU HO_222001.out) (Kd.R_base ho0) hb)
            replace HO_226001 := am (Kd.R_elder' (rU HO_226001.out) (Kd.R_base ho0) hb)
            replace BK183 := am (blk_below (bU BK183.out) hb)
            replace BK184 := am (blk_below (bU BK184.out) hb)
            replace BK195 := am (blk_below (bU BK195.out) hb)
            replace BK213 := am (blk_below (bU BK213.out) hb)
            replace BK217 := am (blk_below (bU BK217.out) hb)
            replace BK221 := am (blk_below (bU BK221.out) hb)
            replace BK225 := am (blk_below (bU BK225.out) hb)
            replace HB := am (below_step (by repeat first | exact lU HB.out | refine below_set ?_ (Aside0.out (by assumption)) | apply below_alloc | apply pw_below_drewN | apply below_drew1) hb)
            (try clear hb)
            (try clear hb2)
            (try clear hk)
            (try clear hi)
            (try clear ho0)
            (try clear ho1)
            obtain ⟨Ao254, co254, eo254⟩ := Kd.R_slice HO246.out
            (first | subst eo254 | (injection eo254 with f1_ f2_ f3_; have f4_ := f1_.symm; have f5_ := f3_.symm; clear f1_ f2_ f3_; subst f4_; subst f5_))
            obtain ⟨Ao255, co255, eo255⟩ := Kd.N_slice HO249.out
            (first | subst eo255 | (injection eo255 with f1_ f2_ f3_; have f4_ := f1_.symm; have f5_ := f3_.symm; clear f1_ f2_ f3_; subst f4_; subst f5_))
            refine hK.out _ _ ⟨(blk_cell BK217.out 0).trans rfl, (blk_cell BK217.out 1).trans rfl, (blk_cell BK217.out 2).trans rfl, (blk_cell BK221.out 0).trans rfl, (blk_cell BK221.out 1).trans rfl, (blk_cell BK221.out 2).trans rfl, (blk_cell BK195.out 0).trans rfl, (blk_cell BK195.out 1).trans rfl, (blk_cell BK195.out 2).trans rfl, (blk_cell BK213.out 0).trans rfl, (blk_cell BK213.out 1).trans rfl, (blk_cell BK213.out 2).trans rfl⟩ (fun hHeld => ?_)
            clear hK K
            refine norm_ (a' := ?_) ?_ ?_
            rotate_left
            ·show Act.put _ (some 126) _ = _
             simp only [Act.put, List.setIfInBounds_toArray, List.set_cons_zero, List.set_cons_succ, i64_w, i32_w]
             rfl
            refine one_ (i := 19) (N := some 128) #[true, true, true, true, true, true, true, true, true, true, true, true, true, true, true, true, true, true, true, true, true, true, false, false, false, false] rfl rfl (one_of HT_.out (by kernel_rfl)) (by decide) (fun K hK => ?_)
            refine goes_ Try.func25 (by kernel_rfl) rfl #[.agg #[.int .i64 t243, .slice Ao254 t244.length co254, .slice Ao255 t247.length co255], .string a3] (by rfl) rfl rfl (by (try simp only [List.map_toArray, List.map_cons, List.map_nil]); first | done | rfl | (simp only [List.length_drop, List.length_take]; rfl)) ?_
            with_reducible refine (eval_Match.calls kj219 t243 _ _ t244 _ _ t247 a3 t250 _ ?side1 ?side2 ?side3 ?side4 ?side5 A248.out).mono ?_
            (case side1 => first | exact GlobOk.below HG.out (by repeat first | exact lU HB.out | refine below_set ?_ (Aside0.out (by assumption)) | apply below_alloc | apply pw_below_drewN | apply below_drew1) | (repeat (first | exact HG.out | (with_reducible refine GlobOk.alloc ?_ _) | (with_reducible refine GlobOk.drewN ?_ _) | (with_reducible refine GlobOk.drew ?_))))
            (case side2 => repeat (first | exact (Kd.R_reads' HO246.out).2.2 | (with_reducible refine Kd.C_alloc ?_ _) | (with_reducible refine Kd.C_drewN ?_ _) | (with_reducible refine Kd.C_drew ?_)))
            (case side3 => exact (Kd.R_reads' HO246.out).2.1)
            (case side4 => repeat (first | exact (Kd.N_reads' HO249.out).2.2 | (with_reducible refine Kd.C_alloc ?_ _) | (with_reducible refine Kd.C_drewN ?_ _) | (with_reducible refine Kd.C_drew ?_)))
            (case side5 => exact (Kd.N_reads' HO249.out).2.1)
            rintro e w256 ⟨rfl, hb⟩
            refine ⟨_, rfl, ?_⟩
            replace HO_184001 := am (Kd.V_below (vU HO_184001.out) hb)
            replace HO_184002 := am (Kd.V_below (vU HO_184002.out) hb)
            replace HO_185001 := am (Kd.V_below (vU HO_185001.out) hb)
            replace HO_185002 := am (Kd.V_below (vU HO_185002.out) hb)
            replace HO_196002 := am (Kd.N_below (nU HO_196002.out) hb)
            replace HO_214002 := am (Kd.N_below (nU HO_214002.out) hb)
            replace HO_218001 := am (Kd.R_below (rU HO_218001.out) hb)
            replace HO_222001 := am (Kd.R_below (rU HO_222001.out) hb)
            replace HO_226001 := am (Kd.R_below (rU HO_226001.out) hb)
            replace HO246 := am (Kd.R_below (rU HO246.out) hb)
            replace HO249 := am (Kd.N_below (nU HO249.out) hb)
            replace BK183 := am (blk_below (bU BK183.out) hb)
            replace BK184 := am (blk_below (bU BK184.out) hb)
            replace BK195 := am (blk_below (bU BK195.out) hb)
            replace BK213 := am (blk_below (bU BK213.out) hb)
            replace BK217 := am (blk_below (bU BK217.out) hb)
            replace BK221 := am (blk_below (bU BK221.out) hb)
            replace BK225 := am (blk_below (bU BK225.out) hb)
            replace HB := am (below_step (by repeat first | exact lU HB.out | refine below_set ?_ (Aside0.out (by assumption)) | apply below_alloc | apply pw_below_drewN | apply below_drew1) hb)
            (try clear hb)
            (try clear hb2)
            (try clear hk)
            (try clear hi)
            refine hK.out _ _ ⟨(blk_cell BK217.out 0).trans rfl, (blk_cell BK217.out 1).trans rfl, (blk_cell BK217.out 2).trans rfl, (blk_cell BK221.out 0).trans rfl, (blk_cell BK221.out 1).trans rfl, (blk_cell BK221.out 2).trans rfl, (blk_cell BK195.out 0).trans rfl, (blk_cell BK195.out 1).trans rfl, (blk_cell BK195.out 2).trans rfl, (blk_cell BK213.out 0).trans rfl, (blk_cell BK213.out 1).trans rfl, (blk_cell BK213.out 2).trans rfl⟩ (fun hHeld => ?_)
            clear hK K
            refine norm_ (a' := ?_) ?_ ?_
            rotate_left
            ·show Act.put _ (some 128) _ = _
             simp only [Act.put, List.setIfInBounds_toArray, List.set_cons_zero, List.set_cons_succ, i64_w, i32_w]
             rfl
            refine one_ (i := 22) (N := some 131) #[true, true, true, true, true, true, true, true, true, true, true, true, true, true, true, true, true, true, true, true, true, true, true, false, false, false] rfl rfl (one_of HT_.out (by kernel_rfl)) (by decide) (fun K hK => ?_)
            refine goes_ Try.func25 (by kernel_rfl) rfl #[.agg #[.int .i64 5, .slice none 0 0, .slice Ao80 y210.length co80], .string a3] (by rfl) rfl rfl (by (try simp only [List.map_toArray, List.map_cons, List.map_nil]); first | done | rfl | (simp only [List.length_drop, List.length_take]; rfl)) ?_
            refine (eval_Match.calls kj219 5 _ _ ([] : List ByteArray) _ _ y210 a3 t251 _ ?side1 ?side2 ?side3 ?side4 ?side5 A249.out).mono ?_
            (case side1 => first | exact GlobOk.below HG.out (by repeat first | exact lU HB.out | refine below_set ?_ (Aside0.out (by assumption)) | apply below_alloc | apply pw_below_drewN | apply below_drew1) | (repeat (first | exact HG.out | (with_reducible refine GlobOk.alloc ?_ _) | (with_reducible refine GlobOk.drewN ?_ _) | (with_reducible refine GlobOk.drew ?_))))
            (case side2 => exact Kd.C_nil _ _)
            (case side3 => exact Nat.le_refl _)
            (case side4 => repeat (first | exact (Kd.N_reads' HO_214002.out).2.2 | (with_reducible refine Kd.C_alloc ?_ _) | (with_reducible refine Kd.C_drewN ?_ _) | (with_reducible refine Kd.C_drew ?_)))
            (case side5 => exact (Kd.N_reads' HO_214002.out).2.1)
            rintro e w257 ⟨rfl, hb⟩
            refine ⟨_, rfl, ?_⟩
            replace HO_184001 := am (Kd.V_below (vU HO_184001.out) hb)
            replace HO_184002 := am (Kd.V_below (vU HO_184002.out) hb)
            replace HO_185001 := am (Kd.V_below (vU HO_185001.out) hb)
            replace HO_185002 := am (Kd.V_below (vU HO_185002.out) hb)
            replace HO_196002 := am (Kd.N_below (nU HO_196002.out) hb)
            replace HO_214002 := am (Kd.N_below (nU HO_214002.out) hb)
            replace HO_218001 := am (Kd.R_below (rU HO_218001.out) hb)
            replace HO_222001 := am (Kd.R_below (rU HO_222001.out) hb)
            replace HO_226001 := am (Kd.R_below (rU HO_226001.out) hb)
            replace HO246 := am (Kd.R_below (rU HO246.out) hb)
            replace HO249 := am (Kd.N_below (nU HO249.out) hb)
            replace BK183 := am (blk_below (bU BK183.out) hb)
            replace BK184 := am (blk_below (bU BK184.out) hb)
            replace BK195 := am (blk_below (bU BK195.out) hb)
            replace BK213 := am (blk_below (bU BK213.out) hb)
            replace BK217 := am (blk_below (bU BK217.out) hb)
            replace BK221 := am (blk_below (bU BK221.out) hb)
            replace BK225 := am (blk_below (bU BK225.out) hb)
            replace HB := am (below_step (by repeat first | exact lU HB.out | refine below_set ?_ (Aside0.out (by assumption)) | apply below_alloc | apply pw_below_drewN | apply below_drew1) hb)
            (try clear hb)
            (try clear hb2)
            (try clear hk)
            (try clear hi)
            refine hK.out _ _ ⟨(blk_cell BK217.out 0).trans rfl, (blk_cell BK217.out 1).trans rfl, (blk_cell BK217.out 2).trans rfl, (blk_cell BK221.out 0).trans rfl, (blk_cell BK221.out 1).trans rfl, (blk_cell BK221.out 2).trans rfl, (blk_cell BK195.out 0).trans rfl, (blk_cell BK195.out 1).trans rfl, (blk_cell BK195.out 2).trans rfl, (blk_cell BK213.out 0).trans rfl, (blk_cell BK213.out 1).trans rfl, (blk_cell BK213.out 2).trans rfl⟩ (fun hHeld => ?_)
            clear hK K
            refine norm_ (a' := ?_) ?_ ?_
            rotate_left
            ·show Act.put _ (some 131) _ = _
             simp only [Act.put, List.setIfInBounds_toArray, List.set_cons_zero, List.set_cons_succ, i64_w, i32_w]
             rfl
            refine pure_ (i := 23) (N := some 132) (v := ?_) (a' := ?_) #[true, true, true, true, true, true, true, true, true, true, true, true, true, true, true, true, true, true, true, true, true, true, true, true, false, false] rfl rfl (any_of HT_.out (by kernel_rfl)) (fun _ _ _ h => h) (Or.inl ⟨by rfl, ?_⟩) ?_ ?_
            rotate_left
            ·intro w'
             go_simp
             with_reducible rfl
            rotate_left
            ·simp only [Act.put, List.setIfInBounds_toArray, List.set_cons_zero, List.set_cons_succ, i64_w, i32_w]
             rfl
            refine pure_ (i := 24) (N := some 133) (v := ?_) (a' := ?_) #[true, true, true, true, true, true, true, true, true, true, true, true, true, true, true, true, true, true, true, true, true, true, true, true, true, false] rfl rfl (any_of HT_.out (by kernel_rfl)) (fun _ _ _ h => h) (Or.inl ⟨by rfl, ?_⟩) ?_ ?_
            rotate_left
            ·intro w'
             go_simp
             with_reducible rfl
            rotate_left
            ·simp only [Act.put, List.setIfInBounds_toArray, List.set_cons_zero, List.set_cons_succ, i64_w, i32_w]
             rfl
            refine pure_ (i := 25) (N := some 8) (v := ?_) (a' := ?_) #[true, true, true, true, true, true, true, true, true, true, true, true, true, true, true, true, true, true, true, true, true, true, true, true, true, true] rfl rfl (any_of HT_.out (by kernel_rfl)) (fun _ _ _ h => h) (Or.inl ⟨by rfl, ?_⟩) ?_ ?_
            rotate_left
            ·intro w'
             go_simp
             with_reducible rfl
            rotate_left
            ·simp only [Act.put, List.setIfInBounds_toArray, List.set_cons_zero, List.set_cons_succ, i64_w, i32_w]
             rfl
            refine done_ (done_of HT_.out (by kernel_rfl)) ?_
            try go_wp2
            go_ret
            exact ⟨by first | rfl | (simp [errW_none, errW_some] <;> rfl) | (simp [*, errW_none, errW_some] <;> rfl), by repeat (first | (with_reducible first | exact HB.out | apply below_alloc | apply pw_below_drewN | apply below_drew1 | refine below_set ?_ (Aside0.out (by assumption))) | exact HB.out)⟩
           ·replace c246 := Bool.eq_false_iff.mpr c246
            subst c246
            have H1 : (some false) = some r := by rw [if_neg (show ¬ (false = true) by decide)] at H; exact H
            clear H
            have H := H1
            clear H1
            obtain rfl := Option.some.inj H
            try go_wp2
            replace HO_184001 := am (Kd.V_drew HO_184001.out)
            replace HO_184002 := am (Kd.V_drew HO_184002.out)
            replace HO_185001 := am (Kd.V_drew HO_185001.out)
            replace HO_185002 := am (Kd.V_drew HO_185002.out)
            replace HO_196002 := am (Kd.N_drew HO_196002.out)
            replace HO_214002 := am (Kd.N_drew HO_214002.out)
            replace HO_218001 := am (Kd.R_drew HO_218001.out)
            replace HO_222001 := am (Kd.R_drew HO_222001.out)
            replace HO_226001 := am (Kd.R_drew HO_226001.out)
            replace BK183 := am (blk_drew BK183.out)
            replace BK184 := am (blk_drew BK184.out)
            replace BK195 := am (blk_drew BK195.out)
            replace BK213 := am (blk_drew BK213.out)
            replace BK217 := am (blk_drew BK217.out)
            replace BK221 := am (blk_drew BK221.out)
            replace BK225 := am (blk_drew BK225.out)
            replace HB := am (below_drew1 HB.out)
            refine start_ (n := 26) (S := fun w' => w'.cell? ⟨gb217, 0, none⟩ = some (.int .i64 2) ∧ w'.cell? ⟨gb217, 1, none⟩ = some (.slice Ao86 y214.length co86) ∧ w'.cell? ⟨gb217, 2, none⟩ = some (.slice none 0 0) ∧ w'.cell? ⟨gb221, 0, none⟩ = some (.int .i64 1) ∧ w'.cell? ⟨gb221, 1, none⟩ = some (.slice Ao95 y218.length co95) ∧ w'.cell? ⟨gb221, 2, none⟩ = some (.slice none 0 0)) (ds := []) #[false, false, false, false, false, false, false, false, false, false, false, false, false, false, false, false, false, false, false, false, false, false, false, false, false, false] (by kernel_rfl) rfl rfl ⟨(blk_cell BK217.out 0).trans rfl, (blk_cell BK217.out 1).trans rfl, (blk_cell BK217.out 2).trans rfl, (blk_cell BK221.out 0).trans rfl, (blk_cell BK221.out 1).trans rfl, (blk_cell BK221.out 2).trans rfl⟩ (fun hHeld => ?_); refine with_tabW verbatimlaw20_EvalLaws.tab15 verbatimlaw20_EvalLaws.bits15 (fun HT_ HW_ => ?_)
            generalize wc.drew = w258 at HO_184001 HO_184002 HO_185001 HO_185002 HO_196002 HO_214002 HO_218001 HO_222001 HO_226001 BK183 BK184 BK195 BK213 BK217 BK221 BK225 HB hHeld ⊢
            refine pure_ (i := 0) (N := some 109) (v := ?_) (a' := ?_) #[true, false, false, false, false, false, false, false, false, false, false, false, false, false, false, false, false, false, false, false, false, false, false, false, false, false] rfl rfl (any_of HT_.out (by kernel_rfl)) (fun _ _ _ h => h) (Or.inl ⟨by rfl, ?_⟩) ?_ ?_
            rotate_left
            ·intro w'
             go_simp
             with_reducible rfl
            rotate_left
            ·simp only [Act.put, List.setIfInBounds_toArray, List.set_cons_zero, List.set_cons_succ, i64_w, i32_w]
             rfl
            refine pure_ (i := 1) (N := some 110) (v := ?_) (a' := ?_) #[true, true, false, false, false, false, false, false, false, false, false, false, false, false, false, false, false, false, false, false, false, false, false, false, false, false] rfl rfl (any_of HT_.out (by kernel_rfl)) (fun _ _ _ h => h) (Or.inl ⟨by rfl, ?_⟩) ?_ ?_
            rotate_left
            ·intro w'
             go_simp
             with_reducible rfl
            rotate_left
            ·simp only [Act.put, List.setIfInBounds_toArray, List.set_cons_zero, List.set_cons_succ, i64_w, i32_w]
             rfl
            refine pure_ (i := 3) (N := some 112) (v := ?_) (a' := ?_) #[true, true, false, true, false, false, false, false, false, false, false, false, false, false, false, false, false, false, false, false, false, false, false, false, false, false] rfl rfl (any_of HT_.out (by kernel_rfl)) (fun _ _ _ h => h) (Or.inl ⟨by rfl, ?_⟩) ?_ ?_
            rotate_left
            ·intro w'
             go_simp
             with_reducible rfl
            rotate_left
            ·simp only [Act.put, List.setIfInBounds_toArray, List.set_cons_zero, List.set_cons_succ, i64_w, i32_w]
             rfl
            refine pure_ (i := 4) (N := some 113) (v := ?_) (a' := ?_) #[true, true, false, true, true, false, false, false, false, false, false, false, false, false, false, false, false, false, false, false, false, false, false, false, false, false] rfl rfl (any_of HT_.out (by kernel_rfl)) (fun _ _ _ h => h) (Or.inl ⟨by rfl, ?_⟩) ?_ ?_
            rotate_left
            ·intro w'
             go_simp
             with_reducible rfl
            rotate_left
            ·simp only [Act.put, List.setIfInBounds_toArray, List.set_cons_zero, List.set_cons_succ, i64_w, i32_w]
             rfl
            refine pure_ (i := 5) (N := some 114) (v := ?_) (a' := ?_) #[true, true, false, true, true, true, false, false, false, false, false, false, false, false, false, false, false, false, false, false, false, false, false, false, false, false] rfl rfl (any_of HT_.out (by kernel_rfl)) (fun _ _ _ h => h) (Or.inl ⟨by rfl, ?_⟩) ?_ ?_
            rotate_left
            ·intro w'
             go_simp
             with_reducible rfl
            rotate_left
            ·simp only [Act.put, List.setIfInBounds_toArray, List.set_cons_zero, List.set_cons_succ, i64_w, i32_w]
             rfl
            refine take_ (i := 2) (N := some 111) (v := ?_) (a' := ?_) #[true, true, true, true, true, true, false, false, false, false, false, false, false, false, false, false, false, false, false, false, false, false, false, false, false, false] rfl rfl (take_ofW HT_.out HW_.out (by kernel_rfl)) (fun _ _ _ h => h) (Or.inl ⟨by rfl, ?_⟩) hHeld ?_ ?_
            rotate_left
            ·rintro w' ⟨s0, s1, s2, s3, s4, s5⟩
             go_simp
             with_reducible rfl
            rotate_left
            ·simp only [Act.put, List.setIfInBounds_toArray, List.set_cons_zero, List.set_cons_succ, i64_w, i32_w]
             rfl
            refine one_ (i := 6) (N := some 115) #[true, true, true, true, true, true, true, false, false, false, false, false, false, false, false, false, false, false, false, false, false, false, false, false, false, false] rfl rfl (one_of HT_.out (by kernel_rfl)) (by decide) (fun K hK => ?_)
            refine goes_ Try.func25 (by kernel_rfl) rfl #[.agg #[.int .i64 2, .slice Ao86 y214.length co86, .slice none 0 0], .string (a2 ++ a3)] (by rfl) rfl rfl (by (try simp only [List.map_toArray, List.map_cons, List.map_nil]); first | done | rfl | (simp only [List.length_drop, List.length_take]; rfl)) ?_
            refine (eval_Match.calls kj219 2 _ _ y214 _ _ ([] : List (S40)) (a2 ++ a3) true _ ?side1 ?side2 ?side3 ?side4 ?side5 A242.out).mono ?_
            (case side1 => first | exact GlobOk.below HG.out (by repeat first | exact lU HB.out | refine below_set ?_ (Aside0.out (by assumption)) | apply below_alloc | apply pw_below_drewN | apply below_drew1) | (repeat (first | exact HG.out | (with_reducible refine GlobOk.alloc ?_ _) | (with_reducible refine GlobOk.drewN ?_ _) | (with_reducible refine GlobOk.drew ?_))))
            (case side2 => repeat (first | exact (Kd.R_reads' HO_218001.out).2.2 | (with_reducible refine Kd.C_alloc ?_ _) | (with_reducible refine Kd.C_drewN ?_ _) | (with_reducible refine Kd.C_drew ?_)))
            (case side3 => exact (Kd.R_reads' HO_218001.out).2.1)
            (case side4 => exact Kd.C_nil _ _)
            (case side5 => exact Nat.le_refl _)
            rintro e w259 ⟨rfl, hb⟩
            refine ⟨_, rfl, ?_⟩
            replace HO_184001 := am (Kd.V_below (vU HO_184001.out) hb)
            replace HO_184002 := am (Kd.V_below (vU HO_184002.out) hb)
            replace HO_185001 := am (Kd.V_below (vU HO_185001.out) hb)
            replace HO_185002 := am (Kd.V_below (vU HO_185002.out) hb)
            replace HO_196002 := am (Kd.N_below (nU HO_196002.out) hb)
            replace HO_214002 := am (Kd.N_below (nU HO_214002.out) hb)
            replace HO_218001 := am (Kd.R_below (rU HO_218001.out) hb)
            replace HO_222001 := am (Kd.R_below (rU HO_222001.out) hb)
            replace HO_226001 := am (Kd.R_below (rU HO_226001.out) hb)
            replace BK183 := am (blk_below (bU BK183.out) hb)
            replace BK184 := am (blk_below (bU BK184.out) hb)
            replace BK195 := am (blk_below (bU BK195.out) hb)
            replace BK213 := am (blk_below (bU BK213.out) hb)
            replace BK217 := am (blk_below (bU BK217.out) hb)
            replace BK221 := am (blk_below (bU BK221.out) hb)
            replace BK225 := am (blk_below (bU BK225.out) hb)
            replace HB := am (below_step (by repeat first | exact lU HB.out | refine below_set ?_ (Aside0.out (by assumption)) | apply below_alloc | apply pw_below_drewN | apply below_drew1) hb)
            (try clear hb)
            (try clear hb2)
            (try clear hk)
            (try clear hi)
            refine hK.out _ _ ⟨(blk_cell BK217.out 0).trans rfl, (blk_cell BK217.out 1).trans rfl, (blk_cell BK217.out 2).trans rfl, (blk_cell BK221.out 0).trans rfl, (blk_cell BK221.out 1).trans rfl, (blk_cell BK221.out 2).trans rfl⟩ (fun hHeld => ?_)
            clear hK K
            refine norm_ (a' := ?_) ?_ ?_
            rotate_left
            ·show Act.put _ (some 115) _ = _
             simp only [Act.put, List.setIfInBounds_toArray, List.set_cons_zero, List.set_cons_succ, i64_w, i32_w]
             rfl
            refine pure_ (i := 7) (N := some 116) (v := ?_) (a' := ?_) #[true, true, true, true, true, true, true, true, false, false, false, false, false, false, false, false, false, false, false, false, false, false, false, false, false, false] rfl rfl (any_of HT_.out (by kernel_rfl)) (fun _ _ _ h => h) (Or.inl ⟨by rfl, ?_⟩) ?_ ?_
            rotate_left
            ·intro w'
             go_simp
             with_reducible rfl
            rotate_left
            ·simp only [Act.put, List.setIfInBounds_toArray, List.set_cons_zero, List.set_cons_succ, i64_w, i32_w]
             rfl
            refine pure_ (i := 8) (N := some 117) (v := ?_) (a' := ?_) #[true, true, true, true, true, true, true, true, true, false, false, false, false, false, false, false, false, false, false, false, false, false, false, false, false, false] rfl rfl (any_of HT_.out (by kernel_rfl)) (fun _ _ _ h => h) (Or.inl ⟨by rfl, ?_⟩) ?_ ?_
            rotate_left
            ·intro w'
             go_simp
             with_reducible rfl
            rotate_left
            ·simp only [Act.put, List.setIfInBounds_toArray, List.set_cons_zero, List.set_cons_succ, i64_w, i32_w]
             rfl
            refine pure_ (i := 10) (N := some 119) (v := ?_) (a' := ?_) #[true, true, true, true, true, true, true, true, true, false, true, false, false, false, false, false, false, false, false, false, false, false, false, false, false, false] rfl rfl (any_of HT_.out (by kernel_rfl)) (fun _ _ _ h => h) (Or.inl ⟨by rfl, ?_⟩) ?_ ?_
            rotate_left
            ·intro w'
             go_simp
             with_reducible rfl
            rotate_left
            ·simp only [Act.put, List.setIfInBounds_toArray, List.set_cons_zero, List.set_cons_succ, i64_w, i32_w]
             rfl
            refine pure_ (i := 11) (N := some 120) (v := ?_) (a' := ?_) #[true, true, true, true, true, true, true, true, true, false, true, true, false, false, false, false, false, false, false, false, false, false, false, false, false, false] rfl rfl (any_of HT_.out (by kernel_rfl)) (fun _ _ _ h => h) (Or.inl ⟨by rfl, ?_⟩) ?_ ?_
            rotate_left
            ·intro w'
             go_simp
             with_reducible rfl
            rotate_left
            ·simp only [Act.put, List.setIfInBounds_toArray, List.set_cons_zero, List.set_cons_succ, i64_w, i32_w]
             rfl
            refine pure_ (i := 12) (N := some 121) (v := ?_) (a' := ?_) #[true, true, true, true, true, true, true, true, true, false, true, true, true, false, false, false, false, false, false, false, false, false, false, false, false, false] rfl rfl (any_of HT_.out (by kernel_rfl)) (fun _ _ _ h => h) (Or.inl ⟨by rfl, ?_⟩) ?_ ?_
            rotate_left
            ·intro w'
             go_simp
             with_reducible rfl
            rotate_left
            ·simp only [Act.put, List.setIfInBounds_toArray, List.set_cons_zero, List.set_cons_succ, i64_w, i32_w]
             rfl
            refine take_ (i := 9) (N := some 118) (v := ?_) (a' := ?_) #[true, true, true, true, true, true, true, true, true, true, true, true, true, false, false, false, false, false, false, false, false, false, false, false, false, false] rfl rfl (take_ofW HT_.out HW_.out (by kernel_rfl)) (fun _ _ _ h => h) (Or.inl ⟨by rfl, ?_⟩) hHeld ?_ ?_
            rotate_left
            ·rintro w' ⟨s0, s1, s2, s3, s4, s5⟩
             go_simp
             with_reducible rfl
            rotate_left
            ·simp only [Act.put, List.setIfInBounds_toArray, List.set_cons_zero, List.set_cons_succ, i64_w, i32_w]
             rfl
            refine one_ (i := 13) (N := some 122) #[true, true, true, true, true, true, true, true, true, true, true, true, true, true, false, false, false, false, false, false, false, false, false, false, false, false] rfl rfl (one_of HT_.out (by kernel_rfl)) (by decide) (fun K hK => ?_)
            refine goes_ Try.func25 (by kernel_rfl) rfl #[.agg #[.int .i64 1, .slice Ao95 y218.length co95, .slice none 0 0], .string (a3 ++ a2)] (by rfl) rfl rfl (by (try simp only [List.map_toArray, List.map_cons, List.map_nil]); first | done | rfl | (simp only [List.length_drop, List.length_take]; rfl)) ?_
            refine (eval_Match.calls kj219 1 _ _ y218 _ _ ([] : List (S40)) (a3 ++ a2) false _ ?side1 ?side2 ?side3 ?side4 ?side5 A245.out).mono ?_
            (case side1 => first | exact GlobOk.below HG.out (by repeat first | exact lU HB.out | refine below_set ?_ (Aside0.out (by assumption)) | apply below_alloc | apply pw_below_drewN | apply below_drew1) | (repeat (first | exact HG.out | (with_reducible refine GlobOk.alloc ?_ _) | (with_reducible refine GlobOk.drewN ?_ _) | (with_reducible refine GlobOk.drew ?_))))
            (case side2 => repeat (first | exact (Kd.R_reads' HO_222001.out).2.2 | (with_reducible refine Kd.C_alloc ?_ _) | (with_reducible refine Kd.C_drewN ?_ _) | (with_reducible refine Kd.C_drew ?_)))
            (case side3 => exact (Kd.R_reads' HO_222001.out).2.1)
            (case side4 => exact Kd.C_nil _ _)
            (case side5 => exact Nat.le_refl _)
            rintro e w260 ⟨rfl, hb⟩
            refine ⟨_, rfl, ?_⟩
            replace HO_184001 := am (Kd.V_below (vU HO_184001.out) hb)
            replace HO_184002 := am (Kd.V_below (vU HO_184002.out) hb)
            replace HO_185001 := am (Kd.V_below (vU HO_185001.out) hb)
            replace HO_185002 := am (Kd.V_below (vU HO_185002.out) hb)
            replace HO_196002 := am (Kd.N_below (nU HO_196002.out) hb)
            replace HO_214002 := am (Kd.N_below (nU HO_214002.out) hb)
            replace HO_218001 := am (Kd.R_below (rU HO_218001.out) hb)
            replace HO_222001 := am (Kd.R_below (rU HO_222001.out) hb)
            replace HO_226001 := am (Kd.R_below (rU HO_226001.out) hb)
            replace BK183 := am (blk_below (bU BK183.out) hb)
            replace BK184 := am (blk_below (bU BK184.out) hb)
            replace BK195 := am (blk_below (bU BK195.out) hb)
            replace BK213 := am (blk_below (bU BK213.out) hb)
            replace BK217 := am (blk_below (bU BK217.out) hb)
            replace BK221 := am (blk_below (bU BK221.out) hb)
            replace BK225 := am (blk_below (bU BK225.out) hb)
            replace HB := am (below_step (by repeat first | exact lU HB.out | refine below_set ?_ (Aside0.out (by assumption)) | apply below_alloc | apply pw_below_drewN | apply below_drew1) hb)
            (try clear hb)
            (try clear hb2)
            (try clear hk)
            (try clear hi)
            refine hK.out _ _ ⟨(blk_cell BK217.out 0).trans rfl, (blk_cell BK217.out 1).trans rfl, (blk_cell BK217.out 2).trans rfl, (blk_cell BK221.out 0).trans rfl, (blk_cell BK221.out 1).trans rfl, (blk_cell BK221.out 2).trans rfl⟩ (fun hHeld => ?_)
            clear hK K
            refine norm_ (a' := ?_) ?_ ?_
            rotate_left
            ·show Act.put _ (some 122) _ = _
             simp only [Act.put, List.setIfInBounds_toArray, List.set_cons_zero, List.set_cons_succ, i64_w, i32_w]
             rfl
            refine pure_ (i := 14) (N := some 123) (v := ?_) (a' := ?_) #[true, true, true, true, true, true, true, true, true, true, true, true, true, true, true, false, false, false, false, false, false, false, false, false, false, false] rfl rfl (any_of HT_.out (by kernel_rfl)) (fun _ _ _ h => h) (Or.inl ⟨by rfl, ?_⟩) ?_ ?_
            rotate_left
            ·intro w'
             go_simp
             with_reducible rfl
            rotate_left
            ·simp only [Act.put, List.setIfInBounds_toArray, List.set_cons_zero, List.set_cons_succ, i64_w, i32_w]
             rfl
            refine pure_ (i := 15) (N := some 124) (v := ?_) (a' := ?_) #[true, true, true, true, true, true, true, true, true, true, true, true, true, true, true, true, false, false, false, false, false, false, false, false, false, false] rfl rfl (any_of HT_.out (by kernel_rfl)) (fun _ _ _ h => h) (Or.inl ⟨by rfl, ?_⟩) ?_ ?_
            rotate_left
            ·intro w'
             go_simp
             with_reducible rfl
            rotate_left
            ·simp only [Act.put, List.setIfInBounds_toArray, List.set_cons_zero, List.set_cons_succ, i64_w, i32_w]
             rfl
            refine pure_ (i := 16) (N := some 125) (v := undef) (a' := ?_) #[true, true, true, true, true, true, true, true, true, true, true, true, true, true, true, true, true, false, false, false, false, false, false, false, false, false] rfl rfl (any_of HT_.out (by kernel_rfl)) (fun _ _ _ h => h) (Or.inr ⟨by rfl, rfl⟩) ?_ ?_
            rotate_left
            ·simp only [Act.put, List.setIfInBounds_toArray, List.set_cons_zero, List.set_cons_succ, i64_w, i32_w]
             rfl
            refine pure_ (i := 17) (N := some 126) (v := undef) (a' := ?_) #[true, true, true, true, true, true, true, true, true, true, true, true, true, true, true, true, true, true, false, false, false, false, false, false, false, false] rfl rfl (any_of HT_.out (by kernel_rfl)) (fun _ _ _ h => h) (Or.inr ⟨by rfl, rfl⟩) ?_ ?_
            rotate_left
            ·simp only [Act.put, List.setIfInBounds_toArray, List.set_cons_zero, List.set_cons_succ, i64_w, i32_w]
             rfl
            refine pure_ (i := 18) (N := some 127) (v := undef) (a' := ?_) #[true, true, true, true, true, true, true, true, true, true, true, true, true, true, true, true, true, true, true, false, false, false, false, false, false, false] rfl rfl (any_of HT_.out (by kernel_rfl)) (fun _ _ _ h => h) (Or.inr ⟨by rfl, rfl⟩) ?_ ?_
            rotate_left
            ·simp only [Act.put, List.setIfInBounds_toArray, List.set_cons_zero, List.set_cons_succ, i64_w, i32_w]
             rfl
            refine pure_ (i := 19) (N := some 128) (v := undef) (a' := ?_) #[true, true, true, true, true, true, true, true, true, true, true, true, true, true, true, true, true, true, true, true, false, false, false, false, false, false] rfl rfl (any_of HT_.out (by kernel_rfl)) (fun _ _ _ h => h) (Or.inr ⟨by rfl, rfl⟩) ?_ ?_
            rotate_left
            ·simp only [Act.put, List.setIfInBounds_toArray, List.set_cons_zero, List.set_cons_succ, i64_w, i32_w]
             rfl
            refine pure_ (i := 20) (N := some 129) (v := undef) (a' := ?_) #[true, true, true, true, true, true, true, true, true, true, true, true, true, true, true, true, true, true, true, true, true, false, false, false, false, false] rfl rfl (any_of HT_.out (by kernel_rfl)) (fun _ _ _ h => h) (Or.inr ⟨by rfl, rfl⟩) ?_ ?_
            rotate_left
            ·simp only [Act.put, List.setIfInBounds_toArray, List.set_cons_zero, List.set_cons_succ, i64_w, i32_w]
             rfl
            refine pure_ (i := 21) (N := some 130) (v := undef) (a' := ?_) #[true, true, true, true, true, true, true, true, true, true, true, true, true, true, true, true, true, true, true, true, true, true, false, false, false, false] rfl rfl (any_of HT_.out (by kernel_rfl)) (fun _ _ _ h => h) (Or.inr ⟨by rfl, rfl⟩) ?_ ?_
            rotate_left
            ·simp only [Act.put, List.setIfInBounds_toArray, List.set_cons_zero, List.set_cons_succ, i64_w, i32_w]
             rfl
            refine pure_ (i := 22) (N := some 131) (v := undef) (a' := ?_) #[true, true, true, true, true, true, true, true, true, true, true, true, true, true, true, true, true, true, true, true, true, true, true, false, false, false] rfl rfl (any_of HT_.out (by kernel_rfl)) (fun _ _ _ h => h) (Or.inr ⟨by rfl, rfl⟩) ?_ ?_
            rotate_left
            ·simp only [Act.put, List.setIfInBounds_toArray, List.set_cons_zero, List.set_cons_succ, i64_w, i32_w]
             rfl
            refine pure_ (i := 23) (N := some 132) (v := undef) (a' := ?_) #[true, true, true, true, true, true, true, true, true, true, true, true, true, true, true, true, true, true, true, true, true, true, true, true, false, false] rfl rfl (any_of HT_.out (by kernel_rfl)) (fun _ _ _ h => h) (Or.inr ⟨by rfl, rfl⟩) ?_ ?_
            rotate_left
            ·simp only [Act.put, List.setIfInBounds_toArray, List.set_cons_zero, List.set_cons_succ, i64_w, i32_w]
             rfl
            refine pure_ (i := 24) (N := some 133) (v := ?_) (a' := ?_) #[true, true, true, true, true, true, true, true, true, true, true, true, true, true, true, true, true, true, true, true, true, true, true, true, true, false] rfl rfl (any_of HT_.out (by kernel_rfl)) (fun _ _ _ h => h) (Or.inl ⟨by rfl, ?_⟩) ?_ ?_
            rotate_left
            ·intro w'
             go_simp
             with_reducible rfl
            rotate_left
            ·simp only [Act.put, List.setIfInBounds_toArray, List.set_cons_zero, List.set_cons_succ, i64_w, i32_w]
             rfl
            refine pure_ (i := 25) (N := some 8) (v := ?_) (a' := ?_) #[true, true, true, true, true, true, true, true, true, true, true, true, true, true, true, true, true, true, true, true, true, true, true, true, true, true] rfl rfl (any_of HT_.out (by kernel_rfl)) (fun _ _ _ h => h) (Or.inl ⟨by rfl, ?_⟩) ?_ ?_
            rotate_left
            ·intro w'
             go_simp
             with_reducible rfl
            rotate_left
            ·simp only [Act.put, List.setIfInBounds_toArray, List.set_cons_zero, List.set_cons_succ, i64_w, i32_w]
             rfl
            refine done_ (done_of HT_.out (by kernel_rfl)) ?_
            try go_wp2
            go_ret
            exact ⟨by first | rfl | (simp [errW_none, errW_some] <;> rfl) | (simp [*, errW_none, errW_some] <;> rfl), by repeat (first | (with_reducible first | exact HB.out | apply below_alloc | apply pw_below_drewN | apply below_drew1 | refine below_set ?_ (Aside0.out (by assumption))) | exact HB.out)⟩
          ·rw [if_neg c244] at H
           exact absurd H (by simp)
         ·replace c243 := Bool.eq_false_iff.mpr c243
          subst c243
          have H1 : (some false) = some r := by rw [if_neg (show ¬ (false = true) by decide)] at H; exact H
          clear H
          have H := H1
          clear H1
          obtain rfl := Option.some.inj H
          try go_wp2
          replace HO_184001 := am (Kd.V_drew HO_184001.out)
          replace HO_184002 := am (Kd.V_drew HO_184002.out)
          replace HO_185001 := am (Kd.V_drew HO_185001.out)
          replace HO_185002 := am (Kd.V_drew HO_185002.out)
          replace HO_196002 := am (Kd.N_drew HO_196002.out)
          replace HO_214002 := am (Kd.N_drew HO_214002.out)
          replace HO_218001 := am (Kd.R_drew HO_218001.out)
          replace HO_222001 := am (Kd.R_drew HO_222001.out)
          replace HO_226001 := am (Kd.R_drew HO_226001.out)
          replace BK183 := am (blk_drew BK183.out)
          replace BK184 := am (blk_drew BK184.out)
          replace BK195 := am (blk_drew BK195.out)
          replace BK213 := am (blk_drew BK213.out)
          replace BK217 := am (blk_drew BK217.out)
          replace BK221 := am (blk_drew BK221.out)
          replace BK225 := am (blk_drew BK225.out)
          replace HB := am (below_drew1 HB.out)
          refine start_ (n := 26) (S := fun w' => w'.cell? ⟨gb217, 0, none⟩ = some (.int .i64 2) ∧ w'.cell? ⟨gb217, 1, none⟩ = some (.slice Ao86 y214.length co86) ∧ w'.cell? ⟨gb217, 2, none⟩ = some (.slice none 0 0)) (ds := []) #[false, false, false, false, false, false, false, false, false, false, false, false, false, false, false, false, false, false, false, false, false, false, false, false, false, false] (by kernel_rfl) rfl rfl ⟨(blk_cell BK217.out 0).trans rfl, (blk_cell BK217.out 1).trans rfl, (blk_cell BK217.out 2).trans rfl⟩ (fun hHeld => ?_); refine with_tabW verbatimlaw20_EvalLaws.tab15 verbatimlaw20_EvalLaws.bits15 (fun HT_ HW_ => ?_)
          generalize wc.drew = w261 at HO_184001 HO_184002 HO_185001 HO_185002 HO_196002 HO_214002 HO_218001 HO_222001 HO_226001 BK183 BK184 BK195 BK213 BK217 BK221 BK225 HB hHeld ⊢
          refine pure_ (i := 0) (N := some 109) (v := ?_) (a' := ?_) #[true, false, false, false, false, false, false, false, false, false, false, false, false, false, false, false, false, false, false, false, false, false, false, false, false, false] rfl rfl (any_of HT_.out (by kernel_rfl)) (fun _ _ _ h => h) (Or.inl ⟨by rfl, ?_⟩) ?_ ?_
          rotate_left
          ·intro w'
           go_simp
           with_reducible rfl
          rotate_left
          ·simp only [Act.put, List.setIfInBounds_toArray, List.set_cons_zero, List.set_cons_succ, i64_w, i32_w]
           rfl
          refine pure_ (i := 1) (N := some 110) (v := ?_) (a' := ?_) #[true, true, false, false, false, false, false, false, false, false, false, false, false, false, false, false, false, false, false, false, false, false, false, false, false, false] rfl rfl (any_of HT_.out (by kernel_rfl)) (fun _ _ _ h => h) (Or.inl ⟨by rfl, ?_⟩) ?_ ?_
          rotate_left
          ·intro w'
           go_simp
           with_reducible rfl
          rotate_left
          ·simp only [Act.put, List.setIfInBounds_toArray, List.set_cons_zero, List.set_cons_succ, i64_w, i32_w]
           rfl
          refine pure_ (i := 3) (N := some 112) (v := ?_) (a' := ?_) #[true, true, false, true, false, false, false, false, false, false, false, false, false, false, false, false, false, false, false, false, false, false, false, false, false, false] rfl rfl (any_of HT_.out (by kernel_rfl)) (fun _ _ _ h => h) (Or.inl ⟨by rfl, ?_⟩) ?_ ?_
          rotate_left
          ·intro w'
           go_simp
           with_reducible rfl
          rotate_left
          ·simp only [Act.put, List.setIfInBounds_toArray, List.set_cons_zero, List.set_cons_succ, i64_w, i32_w]
           rfl
          refine pure_ (i := 4) (N := some 113) (v := ?_) (a' := ?_) #[true, true, false, true, true, false, false, false, false, false, false, false, false, false, false, false, false, false, false, false, false, false, false, false, false, false] rfl rfl (any_of HT_.out (by kernel_rfl)) (fun _ _ _ h => h) (Or.inl ⟨by rfl, ?_⟩) ?_ ?_
          rotate_left
          ·intro w'
           go_simp
           with_reducible rfl
          rotate_left
          ·simp only [Act.put, List.setIfInBounds_toArray, List.set_cons_zero, List.set_cons_succ, i64_w, i32_w]
           rfl
          refine pure_ (i := 5) (N := some 114) (v := ?_) (a' := ?_) #[true, true, false, true, true, true, false, false, false, false, false, false, false, false, false, false, false, false, false, false, false, false, false, false, false, false] rfl rfl (any_of HT_.out (by kernel_rfl)) (fun _ _ _ h => h) (Or.inl ⟨by rfl, ?_⟩) ?_ ?_
          rotate_left
          ·intro w'
           go_simp
           with_reducible rfl
          rotate_left
          ·simp only [Act.put, List.setIfInBounds_toArray, List.set_cons_zero, List.set_cons_succ, i64_w, i32_w]
           rfl
          refine take_ (i := 2) (N := some 111) (v := ?_) (a' := ?_) #[true, true, true, true, true, true, false, false, false, false, false, false, false, false, false, false, false, false, false, false, false, false, false, false, false, false] rfl rfl (take_ofW HT_.out HW_.out (by kernel_rfl)) (fun _ _ _ h => h) (Or.inl ⟨by rfl, ?_⟩) hHeld ?_ ?_
          rotate_left
          ·rintro w' ⟨s0, s1, s2⟩
           go_simp
           with_reducible rfl
          rotate_left
          ·simp only [Act.put, List.setIfInBounds_toArray, List.set_cons_zero, List.set_cons_succ, i64_w, i32_w]
           rfl
          refine one_ (i := 6) (N := some 115) #[true, true, true, true, true, true, true, false, false, false, false, false, false, false, false, false, false, false, false, false, false, false, false, false, false, false] rfl rfl (one_of HT_.out (by kernel_rfl)) (by decide) (fun K hK => ?_)
          refine goes_ Try.func25 (by kernel_rfl) rfl #[.agg #[.int .i64 2, .slice Ao86 y214.length co86, .slice none 0 0], .string (a2 ++ a3)] (by rfl) rfl rfl (by (try simp only [List.map_toArray, List.map_cons, List.map_nil]); first | done | rfl | (simp only [List.length_drop, List.length_take]; rfl)) ?_
          refine (eval_Match.calls kj219 2 _ _ y214 _ _ ([] : List (S40)) (a2 ++ a3) false _ ?side1 ?side2 ?side3 ?side4 ?side5 A242.out).mono ?_
          (case side1 => first | exact GlobOk.below HG.out (by repeat first | exact lU HB.out | refine below_set ?_ (Aside0.out (by assumption)) | apply below_alloc | apply pw_below_drewN | apply below_drew1) | (repeat (first | exact HG.out | (with_reducible refine GlobOk.alloc ?_ _) | (with_reducible refine GlobOk.drewN ?_ _) | (with_reducible refine GlobOk.drew ?_))))
          (case side2 => repeat (first | exact (Kd.R_reads' HO_218001.out).2.2 | (with_reducible refine Kd.C_alloc ?_ _) | (with_reducible refine Kd.C_drewN ?_ _) | (with_reducible refine Kd.C_drew ?_)))
          (case side3 => exact (Kd.R_reads' HO_218001.out).2.1)
          (case side4 => exact Kd.C_nil _ _)
          (case side5 => exact Nat.le_refl _)
          rintro e w262 ⟨rfl, hb⟩
          refine ⟨_, rfl, ?_⟩
          replace HO_184001 := am (Kd.V_below (vU HO_184001.out) hb)
          replace HO_184002 := am (Kd.V_below (vU HO_184002.out) hb)
          replace HO_185001 := am (Kd.V_below (vU HO_185001.out) hb)
          replace HO_185002 := am (Kd.V_below (vU HO_185002.out) hb)
          replace HO_196002 := am (Kd.N_below (nU HO_196002.out) hb)
          replace HO_214002 := am (Kd.N_below (nU HO_214002.out) hb)
          replace HO_218001 := am (Kd.R_below (rU HO_218001.out) hb)
          replace HO_222001 := am (Kd.R_below (rU HO_222001.out) hb)
          replace HO_226001 := am (Kd.R_below (rU HO_226001.out) hb)
          replace BK183 := am (blk_below (bU BK183.out) hb)
          replace BK184 := am (blk_below (bU BK184.out) hb)
          replace BK195 := am (blk_below (bU BK195.out) hb)
          replace BK213 := am (blk_below (bU BK213.out) hb)
          replace BK217 := am (blk_below (bU BK217.out) hb)
          replace BK221 := am (blk_below (bU BK221.out) hb)
          replace BK225 := am (blk_below (bU BK225.out) hb)
          replace HB := am (below_step (by repeat first | exact lU HB.out | refine below_set ?_ (Aside0.out (by assumption)) | apply below_alloc | apply pw_below_drewN | apply below_drew1) hb)
          (try clear hb)
          (try clear hb2)
          (try clear hk)
          (try clear hi)
          refine hK.out _ _ ⟨(blk_cell BK217.out 0).trans rfl, (blk_cell BK217.out 1).trans rfl, (blk_cell BK217.out 2).trans rfl⟩ (fun hHeld => ?_)
          clear hK K
          refine norm_ (a' := ?_) ?_ ?_
          rotate_left
          ·show Act.put _ (some 115) _ = _
           simp only [Act.put, List.setIfInBounds_toArray, List.set_cons_zero, List.set_cons_succ, i64_w, i32_w]
           rfl
          refine pure_ (i := 7) (N := some 116) (v := ?_) (a' := ?_) #[true, true, true, true, true, true, true, true, false, false, false, false, false, false, false, false, false, false, false, false, false, false, false, false, false, false] rfl rfl (any_of HT_.out (by kernel_rfl)) (fun _ _ _ h => h) (Or.inl ⟨by rfl, ?_⟩) ?_ ?_
          rotate_left
          ·intro w'
           go_simp
           with_reducible rfl
          rotate_left
          ·simp only [Act.put, List.setIfInBounds_toArray, List.set_cons_zero, List.set_cons_succ, i64_w, i32_w]
           rfl
          refine pure_ (i := 8) (N := some 117) (v := ?_) (a' := ?_) #[true, true, true, true, true, true, true, true, true, false, false, false, false, false, false, false, false, false, false, false, false, false, false, false, false, false] rfl rfl (any_of HT_.out (by kernel_rfl)) (fun _ _ _ h => h) (Or.inl ⟨by rfl, ?_⟩) ?_ ?_
          rotate_left
          ·intro w'
           go_simp
           with_reducible rfl
          rotate_left
          ·simp only [Act.put, List.setIfInBounds_toArray, List.set_cons_zero, List.set_cons_succ, i64_w, i32_w]
           rfl
          refine pure_ (i := 9) (N := some 118) (v := undef) (a' := ?_) #[true, true, true, true, true, true, true, true, true, true, false, false, false, false, false, false, false, false, false, false, false, false, false, false, false, false] rfl rfl (any_of HT_.out (by kernel_rfl)) (fun _ _ _ h => h) (Or.inr ⟨by rfl, rfl⟩) ?_ ?_
          rotate_left
          ·simp only [Act.put, List.setIfInBounds_toArray, List.set_cons_zero, List.set_cons_succ, i64_w, i32_w]
           rfl
          refine pure_ (i := 10) (N := some 119) (v := undef) (a' := ?_) #[true, true, true, true, true, true, true, true, true, true, true, false, false, false, false, false, false, false, false, false, false, false, false, false, false, false] rfl rfl (any_of HT_.out (by kernel_rfl)) (fun _ _ _ h => h) (Or.inr ⟨by rfl, rfl⟩) ?_ ?_
          rotate_left
          ·simp only [Act.put, List.setIfInBounds_toArray, List.set_cons_zero, List.set_cons_succ, i64_w, i32_w]
           rfl
          refine pure_ (i := 11) (N := some 120) (v := undef) (a' := ?_) #[true, true, true, true, true, true, true, true, true, true, true, true, false, false, false, false, false, false, false, false, false, false, false, false, false, false] rfl rfl (any_of HT_.out (by kernel_rfl)) (fun _ _ _ h => h) (Or.inr ⟨by rfl, rfl⟩) ?_ ?_
          rotate_left
          ·simp only [Act.put, List.setIfInBounds_toArray, List.set_cons_zero, List.set_cons_succ, i64_w, i32_w]
           rfl
          refine pure_ (i := 12) (N := some 121) (v := undef) (a' := ?_) #[true, true, true, true, true, true, true, true, true, true, true, true, true, false, false, false, false, false, false, false, false, false, false, false, false, false] rfl rfl (any_of HT_.out (by kernel_rfl)) (fun _ _ _ h => h) (Or.inr ⟨by rfl, rfl⟩) ?_ ?_
          rotate_left
          ·simp only [Act.put, List.setIfInBounds_toArray, List.set_cons_zero, List.set_cons_succ, i64_w, i32_w]
           rfl
          refine pure_ (i := 13) (N := some 122) (v := undef) (a' := ?_) #[true, true, true, true, true, true, true, true, true, true, true, true, true, true, false, false, false, false, false, false, false, false, false, false, false, false] rfl rfl (any_of HT_.out (by kernel_rfl)) (fun _ _ _ h => h) (Or.inr ⟨by rfl, rfl⟩) ?_ ?_
          rotate_left
          ·simp only [Act.put, List.setIfInBounds_toArray, List.set_cons_zero, List.set_cons_succ, i64_w, i32_w]
           rfl
          refine pure_ (i := 14) (N := some 123) (v := ?_) (a' := ?_) #[true, true, true, true, true, true, true, true, true, true, true, true, true, true, true, false, false, false, false, false, false, false, false, false, false, false] rfl rfl (any_of HT_.out (by kernel_rfl)) (fun _ _ _ h => h) (Or.inl ⟨by rfl, ?_⟩) ?_ ?_
          rotate_left
          ·intro w'
           go_simp
           with_reducible rfl
          rotate_left
          ·simp only [Act.put, List.setIfInBounds_toArray, List.set_cons_zero, List.set_cons_succ, i64_w, i32_w]
           rfl
          refine pure_ (i := 15) (N := some 124) (v := ?_) (a' := ?_) #[true, true, true, true, true, true, true, true, true, true, true, true, true, true, true, true, false, false, false, false, false, false, false, false, false, false] rfl rfl (any_of HT_.out (by kernel_rfl)) (fun _ _ _ h => h) (Or.inl ⟨by rfl, ?_⟩) ?_ ?_
          rotate_left
          ·intro w'
           go_simp
           with_reducible rfl
          rotate_left
          ·simp only [Act.put, List.setIfInBounds_toArray, List.set_cons_zero, List.set_cons_succ, i64_w, i32_w]
           rfl
          refine pure_ (i := 16) (N := some 125) (v := undef) (a' := ?_) #[true, true, true, true, true, true, true, true, true, true, true, true, true, true, true, true, true, false, false, false, false, false, false, false, false, false] rfl rfl (any_of HT_.out (by kernel_rfl)) (fun _ _ _ h => h) (Or.inr ⟨by rfl, rfl⟩) ?_ ?_
          rotate_left
          ·simp only [Act.put, List.setIfInBounds_toArray, List.set_cons_zero, List.set_cons_succ, i64_w, i32_w]
           rfl
          refine pure_ (i := 17) (N := some 126) (v := undef) (a' := ?_) #[true, true, true, true, true, true, true, true, true, true, true, true, true, true, true, true, true, true, false, false, false, false, false, false, false, false] rfl rfl (any_of HT_.out (by kernel_rfl)) (fun _ _ _ h => h) (Or.inr ⟨by rfl, rfl⟩) ?_ ?_
          rotate_left
          ·simp only [Act.put, List.setIfInBounds_toArray, List.set_cons_zero, List.set_cons_succ, i64_w, i32_w]
           rfl
          refine pure_ (i := 18) (N := some 127) (v := undef) (a' := ?_) #[true, true, true, true, true, true, true, true, true, true, true, true, true, true, true, true, true, true, true, false, false, false, false, false, false, false] rfl rfl (any_of HT_.out (by kernel_rfl)) (fun _ _ _ h => h) (Or.inr ⟨by rfl, rfl⟩) ?_ ?_
          rotate_left
          ·simp only [Act.put, List.setIfInBounds_toArray, List.set_cons_zero, List.set_cons_succ, i64_w, i32_w]
           rfl
          refine pure_ (i := 19) (N := some 128) (v := undef) (a' := ?_) #[true, true, true, true, true, true, true, true, true, true, true, true, true, true, true, true, true, true, true, true, false, false, false, false, false, false] rfl rfl (any_of HT_.out (by kernel_rfl)) (fun _ _ _ h => h) (Or.inr ⟨by rfl, rfl⟩) ?_ ?_
          rotate_left
          ·simp only [Act.put, List.setIfInBounds_toArray, List.set_cons_zero, List.set_cons_succ, i64_w, i32_w]
           rfl
          refine pure_ (i := 20) (N := some 129) (v := undef) (a' := ?_) #[true, true, true, true, true, true, true, true, true, true, true, true, true, true, true, true, true, true, true, true, true, false, false, false, false, false] rfl rfl (any_of HT_.out (by kernel_rfl)) (fun _ _ _ h => h) (Or.inr ⟨by rfl, rfl⟩) ?_ ?_
          rotate_left
          ·simp only [Act.put, List.setIfInBounds_toArray, List.set_cons_zero, List.set_cons_succ, i64_w, i32_w]
           rfl
          refine pure_ (i := 21) (N := some 130) (v := undef) (a' := ?_) #[true, true, true, true, true, true, true, true, true, true, true, true, true, true, true, true, true, true, true, true, true, true, false, false, false, false] rfl rfl (any_of HT_.out (by kernel_rfl)) (fun _ _ _ h => h) (Or.inr ⟨by rfl, rfl⟩) ?_ ?_
          rotate_left
          ·simp only [Act.put, List.setIfInBounds_toArray, List.set_cons_zero, List.set_cons_succ, i64_w, i32_w]
           rfl
          refine pure_ (i := 22) (N := some 131) (v := undef) (a' := ?_) #[true, true, true, true, true, true, true, true, true, true, true, true, true, true, true, true, true, true, true, true, true, true, true, false, false, false] rfl rfl (any_of HT_.out (by kernel_rfl)) (fun _ _ _ h => h) (Or.inr ⟨by rfl, rfl⟩) ?_ ?_
          rotate_left
          ·simp only [Act.put, List.setIfInBounds_toArray, List.set_cons_zero, List.set_cons_succ, i64_w, i32_w]
           rfl
          refine pure_ (i := 23) (N := some 132) (v := undef) (a' := ?_) #[true, true, true, true, true, true, true, true, true, true, true, true, true, true, true, true, true, true, true, true, true, true, true, true, false, false] rfl rfl (any_of HT_.out (by kernel_rfl)) (fun _ _ _ h => h) (Or.inr ⟨by rfl, rfl⟩) ?_ ?_
          rotate_left
          ·simp only [Act.put, List.setIfInBounds_toArray, List.set_cons_zero, List.set_cons_succ, i64_w, i32_w]
           rfl
          refine pure_ (i := 24) (N := some 133) (v := ?_) (a' := ?_) #[true, true, true, true, true, true, true, true, true, true, true, true, true, true, true, true, true, true, true, true, true, true, true, true, true, false] rfl rfl (any_of HT_.out (by kernel_rfl)) (fun _ _ _ h => h) (Or.inl ⟨by rfl, ?_⟩) ?_ ?_
          rotate_left
          ·intro w'
           go_simp
           with_reducible rfl
          rotate_left
          ·simp only [Act.put, List.setIfInBounds_toArray, List.set_cons_zero, List.set_cons_succ, i64_w, i32_w]
           rfl
          refine pure_ (i := 25) (N := some 8) (v := ?_) (a' := ?_) #[true, true, true, true, true, true, true, true, true, true, true, true, true, true, true, true, true, true, true, true, true, true, true, true, true, true] rfl rfl (any_of HT_.out (by kernel_rfl)) (fun _ _ _ h => h) (Or.inl ⟨by rfl, ?_⟩) ?_ ?_
          rotate_left
          ·intro w'
           go_simp
           with_reducible rfl
          rotate_left
          ·simp only [Act.put, List.setIfInBounds_toArray, List.set_cons_zero, List.set_cons_succ, i64_w, i32_w]
           rfl
          refine done_ (done_of HT_.out (by kernel_rfl)) ?_
          try go_wp2
          go_ret
          exact ⟨by first | rfl | (simp [errW_none, errW_some] <;> rfl) | (simp [*, errW_none, errW_some] <;> rfl), by repeat (first | (with_reducible first | exact HB.out | apply below_alloc | apply pw_below_drewN | apply below_drew1 | refine below_set ?_ (Aside0.out (by assumption))) | exact HB.out)⟩
        ·rw [if_neg c241] at H
         exact absurd H (by simp)
       ·replace c240 := Bool.eq_false_iff.mpr c240
        subst c240
        have H1 : (some false) = some r := by rw [if_neg (show ¬ (false = true) by decide)] at H; exact H
        clear H
        have H := H1
        clear H1
        obtain rfl := Option.some.inj H
        try go_wp2
        replace HO_184001 := am (Kd.V_drew HO_184001.out)
        replace HO_184002 := am (Kd.V_drew HO_184002.out)
        replace HO_185001 := am (Kd.V_drew HO_185001.out)
        replace HO_185002 := am (Kd.V_drew HO_185002.out)
        replace HO_196002 := am (Kd.N_drew HO_196002.out)
        replace HO_214002 := am (Kd.N_drew HO_214002.out)
        replace HO_218001 := am (Kd.R_drew HO_218001.out)
        replace HO_222001 := am (Kd.R_drew HO_222001.out)
        replace HO_226001 := am (Kd.R_drew HO_226001.out)
        replace BK183 := am (blk_drew BK183.out)
        replace BK184 := am (blk_drew BK184.out)
        replace BK195 := am (blk_drew BK195.out)
        replace BK213 := am (blk_drew BK213.out)
        replace BK217 := am (blk_drew BK217.out)
        replace BK221 := am (blk_drew BK221.out)
        replace BK225 := am (blk_drew BK225.out)
        replace HB := am (below_drew1 HB.out)
        refine start_ (n := 26) (S := fun w' => True) (ds := []) #[false, false, false, false, false, false, false, false, false, false, false, false, false, false, false, false, false, false, false, false, false, false, false, false, false, false] (by kernel_rfl) rfl rfl trivial (fun hHeld => ?_); refine with_tabW verbatimlaw20_EvalLaws.tab15 verbatimlaw20_EvalLaws.bits15 (fun HT_ HW_ => ?_)
        generalize wc.drew = w263 at HO_184001 HO_184002 HO_185001 HO_185002 HO_196002 HO_214002 HO_218001 HO_222001 HO_226001 BK183 BK184 BK195 BK213 BK217 BK221 BK225 HB hHeld ⊢
        refine pure_ (i := 0) (N := some 109) (v := ?_) (a' := ?_) #[true, false, false, false, false, false, false, false, false, false, false, false, false, false, false, false, false, false, false, false, false, false, false, false, false, false] rfl rfl (any_of HT_.out (by kernel_rfl)) (fun _ _ _ h => h) (Or.inl ⟨by rfl, ?_⟩) ?_ ?_
        rotate_left
        ·intro w'
         go_simp
         with_reducible rfl
        rotate_left
        ·simp only [Act.put, List.setIfInBounds_toArray, List.set_cons_zero, List.set_cons_succ, i64_w, i32_w]
         rfl
        refine pure_ (i := 1) (N := some 110) (v := ?_) (a' := ?_) #[true, true, false, false, false, false, false, false, false, false, false, false, false, false, false, false, false, false, false, false, false, false, false, false, false, false] rfl rfl (any_of HT_.out (by kernel_rfl)) (fun _ _ _ h => h) (Or.inl ⟨by rfl, ?_⟩) ?_ ?_
        rotate_left
        ·intro w'
         go_simp
         with_reducible rfl
        rotate_left
        ·simp only [Act.put, List.setIfInBounds_toArray, List.set_cons_zero, List.set_cons_succ, i64_w, i32_w]
         rfl
        refine pure_ (i := 2) (N := some 111) (v := undef) (a' := ?_) #[true, true, true, false, false, false, false, false, false, false, false, false, false, false, false, false, false, false, false, false, false, false, false, false, false, false] rfl rfl (any_of HT_.out (by kernel_rfl)) (fun _ _ _ h => h) (Or.inr ⟨by rfl, rfl⟩) ?_ ?_
        rotate_left
        ·simp only [Act.put, List.setIfInBounds_toArray, List.set_cons_zero, List.set_cons_succ, i64_w, i32_w]
         rfl
        refine pure_ (i := 3) (N := some 112) (v := undef) (a' := ?_) #[true, true, true, true, false, false, false, false, false, false, false, false, false, false, false, false, false, false, false, false, false, false, false, false, false, false] rfl rfl (any_of HT_.out (by kernel_rfl)) (fun _ _ _ h => h) (Or.inr ⟨by rfl, rfl⟩) ?_ ?_
        rotate_left
        ·simp only [Act.put, List.setIfInBounds_toArray, List.set_cons_zero, List.set_cons_succ, i64_w, i32_w]
         rfl
        refine pure_ (i := 4) (N := some 113) (v := undef) (a' := ?_) #[true, true, true, true, true, false, false, false, false, false, false, false, false, false, false, false, false, false, false, false, false, false, false, false, false, false] rfl rfl (any_of HT_.out (by kernel_rfl)) (fun _ _ _ h => h) (Or.inr ⟨by rfl, rfl⟩) ?_ ?_
        rotate_left
        ·simp only [Act.put, List.setIfInBounds_toArray, List.set_cons_zero, List.set_cons_succ, i64_w, i32_w]
         rfl
        refine pure_ (i := 5) (N := some 114) (v := undef) (a' := ?_) #[true, true, true, true, true, true, false, false, false, false, false, false, false, false, false, false, false, false, false, false, false, false, false, false, false, false] rfl rfl (any_of HT_.out (by kernel_rfl)) (fun _ _ _ h => h) (Or.inr ⟨by rfl, rfl⟩) ?_ ?_
        rotate_left
        ·simp only [Act.put, List.setIfInBounds_toArray, List.set_cons_zero, List.set_cons_succ, i64_w, i32_w]
         rfl
        refine pure_ (i := 6) (N := some 115) (v := undef) (a' := ?_) #[true, true, true, true, true, true, true, false, false, false, false, false, false, false, false, false, false, false, false, false, false, false, false, false, false, false] rfl rfl (any_of HT_.out (by kernel_rfl)) (fun _ _ _ h => h) (Or.inr ⟨by rfl, rfl⟩) ?_ ?_
        rotate_left
        ·simp only [Act.put, List.setIfInBounds_toArray, List.set_cons_zero, List.set_cons_succ, i64_w, i32_w]
         rfl
        refine pure_ (i := 7) (N := some 116) (v := ?_) (a' := ?_) #[true, true, true, true, true, true, true, true, false, false, false, false, false, false, false, false, false, false, false, false, false, false, false, false, false, false] rfl rfl (any_of HT_.out (by kernel_rfl)) (fun _ _ _ h => h) (Or.inl ⟨by rfl, ?_⟩) ?_ ?_
        rotate_left
        ·intro w'
         go_simp
         with_reducible rfl
        rotate_left
        ·simp only [Act.put, List.setIfInBounds_toArray, List.set_cons_zero, List.set_cons_succ, i64_w, i32_w]
         rfl
        refine pure_ (i := 8) (N := some 117) (v := ?_) (a' := ?_) #[true, true, true, true, true, true, true, true, true, false, false, false, false, false, false, false, false, false, false, false, false, false, false, false, false, false] rfl rfl (any_of HT_.out (by kernel_rfl)) (fun _ _ _ h => h) (Or.inl ⟨by rfl, ?_⟩) ?_ ?_
        rotate_left
        ·intro w'
         go_simp
         with_reducible rfl
        rotate_left
        ·simp only [Act.put, List.setIfInBounds_toArray, List.set_cons_zero, List.set_cons_succ, i64_w, i32_w]
         rfl
        refine pure_ (i := 9) (N := some 118) (v := undef) (a' := ?_) #[true, true, true, true, true, true, true, true, true, true, false, false, false, false, false, false, false, false, false, false, false, false, false, false, false, false] rfl rfl (any_of HT_.out (by kernel_rfl)) (fun _ _ _ h => h) (Or.inr ⟨by rfl, rfl⟩) ?_ ?_
        rotate_left
        ·simp only [Act.put, List.setIfInBounds_toArray, List.set_cons_zero, List.set_cons_succ, i64_w, i32_w]
         rfl
        refine pure_ (i := 10) (N := some 119) (v := undef) (a' := ?_) #[true, true, true, true, true, true, true, true, true, true, true, false, false, false, false, false, false, false, false, false, false, false, false, false, false, false] rfl rfl (any_of HT_.out (by kernel_rfl)) (fun _ _ _ h => h) (Or.inr ⟨by rfl, rfl⟩) ?_ ?_
        rotate_left
        ·simp only [Act.put, List.setIfInBounds_toArray, List.set_cons_zero, List.set_cons_succ, i64_w, i32_w]
         rfl
        refine pure_ (i := 11) (N := some 120) (v := undef) (a' := ?_) #[true, true, true, true, true, true, true, true, true, true, true, true, false, false, false, false, false, false, false, false, false, false, false, false, false, false] rfl rfl (any_of HT_.out (by kernel_rfl)) (fun _ _ _ h => h) (Or.inr ⟨by rfl, rfl⟩) ?_ ?_
        rotate_left
        ·simp only [Act.put, List.setIfInBounds_toArray, List.set_cons_zero, List.set_cons_succ, i64_w, i32_w]
         rfl
        refine pure_ (i := 12) (N := some 121) (v := undef) (a' := ?_) #[true, true, true, true, true, true, true, true, true, true, true, true, true, false, false, false, false, false, false, false, false, false, false, false, false, false] rfl rfl (any_of HT_.out (by kernel_rfl)) (fun _ _ _ h => h) (Or.inr ⟨by rfl, rfl⟩) ?_ ?_
        rotate_left
        ·simp only [Act.put, List.setIfInBounds_toArray, List.set_cons_zero, List.set_cons_succ, i64_w, i32_w]
         rfl
        refine pure_ (i := 13) (N := some 122) (v := undef) (a' := ?_) #[true, true, true, true, true, true, true, true, true, true, true, true, true, true, false, false, false, false, false, false, false, false, false, false, false, false] rfl rfl (any_of HT_.out (by kernel_rfl)) (fun _ _ _ h => h) (Or.inr ⟨by rfl, rfl⟩) ?_ ?_
        rotate_left
        ·simp only [Act.put, List.setIfInBounds_toArray, List.set_cons_zero, List.set_cons_succ, i64_w, i32_w]
         rfl
        refine pure_ (i := 14) (N := some 123) (v := ?_) (a' := ?_) #[true, true, true, true, true, true, true, true, true, true, true, true, true, true, true, false, false, false, false, false, false, false, false, false, false, false] rfl rfl (any_of HT_.out (by kernel_rfl)) (fun _ _ _ h => h) (Or.inl ⟨by rfl, ?_⟩) ?_ ?_
        rotate_left
        ·intro w'
         go_simp
         with_reducible rfl
        rotate_left
        ·simp only [Act.put, List.setIfInBounds_toArray, List.set_cons_zero, List.set_cons_succ, i64_w, i32_w]
         rfl
        refine pure_ (i := 15) (N := some 124) (v := ?_) (a' := ?_) #[true, true, true, true, true, true, true, true, true, true, true, true, true, true, true, true, false, false, false, false, false, false, false, false, false, false] rfl rfl (any_of HT_.out (by kernel_rfl)) (fun _ _ _ h => h) (Or.inl ⟨by rfl, ?_⟩) ?_ ?_
        rotate_left
        ·intro w'
         go_simp
         with_reducible rfl
        rotate_left
        ·simp only [Act.put, List.setIfInBounds_toArray, List.set_cons_zero, List.set_cons_succ, i64_w, i32_w]
         rfl
        refine pure_ (i := 16) (N := some 125) (v := undef) (a' := ?_) #[true, true, true, true, true, true, true, true, true, true, true, true, true, true, true, true, true, false, false, false, false, false, false, false, false, false] rfl rfl (any_of HT_.out (by kernel_rfl)) (fun _ _ _ h => h) (Or.inr ⟨by rfl, rfl⟩) ?_ ?_
        rotate_left
        ·simp only [Act.put, List.setIfInBounds_toArray, List.set_cons_zero, List.set_cons_succ, i64_w, i32_w]
         rfl
        refine pure_ (i := 17) (N := some 126) (v := undef) (a' := ?_) #[true, true, true, true, true, true, true, true, true, true, true, true, true, true, true, true, true, true, false, false, false, false, false, false, false, false] rfl rfl (any_of HT_.out (by kernel_rfl)) (fun _ _ _ h => h) (Or.inr ⟨by rfl, rfl⟩) ?_ ?_
        rotate_left
        ·simp only [Act.put, List.setIfInBounds_toArray, List.set_cons_zero, List.set_cons_succ, i64_w, i32_w]
         rfl
        refine pure_ (i := 18) (N := some 127) (v := undef) (a' := ?_) #[true, true, true, true, true, true, true, true, true, true, true, true, true, true, true, true, true, true, true, false, false, false, false, false, false, false] rfl rfl (any_of HT_.out (by kernel_rfl)) (fun _ _ _ h => h) (Or.inr ⟨by rfl, rfl⟩) ?_ ?_
        rotate_left
        ·simp only [Act.put, List.setIfInBounds_toArray, List.set_cons_zero, List.set_cons_succ, i64_w, i32_w]
         rfl
        refine pure_ (i := 19) (N := some 128) (v := undef) (a' := ?_) #[true, true, true, true, true, true, true, true, true, true, true, true, true, true, true, true, true, true, true, true, false, false, false, false, false, false] rfl rfl (any_of HT_.out (by kernel_rfl)) (fun _ _ _ h => h) (Or.inr ⟨by rfl, rfl⟩) ?_ ?_
        rotate_left
        ·simp only [Act.put, List.setIfInBounds_toArray, List.set_cons_zero, List.set_cons_succ, i64_w, i32_w]
         rfl
        refine pure_ (i := 20) (N := some 129) (v := undef) (a' := ?_) #[true, true, true, true, true, true, true, true, true, true, true, true, true, true, true, true, true, true, true, true, true, false, false, false, false, false] rfl rfl (any_of HT_.out (by kernel_rfl)) (fun _ _ _ h => h) (Or.inr ⟨by rfl, rfl⟩) ?_ ?_
        rotate_left
        ·simp only [Act.put, List.setIfInBounds_toArray, List.set_cons_zero, List.set_cons_succ, i64_w, i32_w]
         rfl
        refine pure_ (i := 21) (N := some 130) (v := undef) (a' := ?_) #[true, true, true, true, true, true, true, true, true, true, true, true, true, true, true, true, true, true, true, true, true, true, false, false, false, false] rfl rfl (any_of HT_.out (by kernel_rfl)) (fun _ _ _ h => h) (Or.inr ⟨by rfl, rfl⟩) ?_ ?_
        rotate_left
        ·simp only [Act.put, List.setIfInBounds_toArray, List.set_cons_zero, List.set_cons_succ, i64_w, i32_w]
         rfl
        refine pure_ (i := 22) (N := some 131) (v := undef) (a' := ?_) #[true, true, true, true, true, true, true, true, true, true, true, true, true, true, true, true, true, true, true, true, true, true, true, false, false, false] rfl rfl (any_of HT_.out (by kernel_rfl)) (fun _ _ _ h => h) (Or.inr ⟨by rfl, rfl⟩) ?_ ?_
        rotate_left
        ·simp only [Act.put, List.setIfInBounds_toArray, List.set_cons_zero, List.set_cons_succ, i64_w, i32_w]
         rfl
        refine pure_ (i := 23) (N := some 132) (v := undef) (a' := ?_) #[true, true, true, true, true, true, true, true, true, true, true, true, true, true, true, true, true, true, true, true, true, true, true, true, false, false] rfl rfl (any_of HT_.out (by kernel_rfl)) (fun _ _ _ h => h) (Or.inr ⟨by rfl, rfl⟩) ?_ ?_
        rotate_left
        ·simp only [Act.put, List.setIfInBounds_toArray, List.set_cons_zero, List.set_cons_succ, i64_w, i32_w]
         rfl
        refine pure_ (i := 24) (N := some 133) (v := ?_) (a' := ?_) #[true, true, true, true, true, true, true, true, true, true, true, true, true, true, true, true, true, true, true, true, true, true, true, true, true, false] rfl rfl (any_of HT_.out (by kernel_rfl)) (fun _ _ _ h => h) (Or.inl ⟨by rfl, ?_⟩) ?_ ?_
        rotate_left
        ·intro w'
         go_simp
         with_reducible rfl
        rotate_left
        ·simp only [Act.put, List.setIfInBounds_toArray, List.set_cons_zero, List.set_cons_succ, i64_w, i32_w]
         rfl
        refine pure_ (i := 25) (N := some 8) (v := ?_) (a' := ?_) #[true, true, true, true, true, true, true, true, true, true, true, true, true, true, true, true, true, true, true, true, true, true, true, true, true, true] rfl rfl (any_of HT_.out (by kernel_rfl)) (fun _ _ _ h => h) (Or.inl ⟨by rfl, ?_⟩) ?_ ?_
        rotate_left
        ·intro w'
         go_simp
         with_reducible rfl
        rotate_left
        ·simp only [Act.put, List.setIfInBounds_toArray, List.set_cons_zero, List.set_cons_succ, i64_w, i32_w]
         rfl
        refine done_ (done_of HT_.out (by kernel_rfl)) ?_
        try go_wp2
        go_ret
        exact ⟨by first | rfl | (simp [errW_none, errW_some] <;> rfl) | (simp [*, errW_none, errW_some] <;> rfl), by repeat (first | (with_reducible first | exact HB.out | apply below_alloc | apply pw_below_drewN | apply below_drew1 | refine below_set ?_ (Aside0.out (by assumption))) | exact HB.out)⟩

end Go.Proofs.Ytbbgnapepkenaaa.E
