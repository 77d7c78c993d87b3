/- Functions of the program in the form of the fast machine, as literals (printed by a program of ours). -/
import Derived.Test.YtkpoeilfnopgbaaGreatDoorUFN
import Derived.KernelRfl
namespace Go.Proofs.YtkpoeilfnopgbaaGreatDoor.HM
open Go Go.RowKit
noncomputable abbrev dF := decF Tryz.prog (inTr pur)
def Q0:V:=(.str [])
def Q1:V:=(.bool false)
def Q2:List V:=[Q0, Q0, Q0, .nils, Q1, Q1, .nils, Q1, .nils, .nils, .nils]
def Q3:FO:=(.alloc Q2 27)
def Q4:FO:=(.call 23 [])
def Q5:FR:=(.o (.sto 11 s0 s1) .nil)
def Q6:FO:=(.lenL s0)
def Q7:FO:=(.mv n0)
def Q8:FR:=(.op Q7 p7 .nil)
def Q9:FC:=(.exit 0)
def Q10:FO:=(.ld1 s0)
def Q11:FO:=(.mv s0)
def Q12:FR:=(.op Q11 p1 .nil)
def Q13:FO:=(.ldN 11 t3)
def Q14:FR:=(.o (.sto 11 t3 s0) .nil)
def Q15:FR:=(.op Q11 p7 .nil)
def Q16:FC:=(.reg (.o (.bin .add .add 3 true t7 n1) Q15))
def Q17:FR:=(.op Q7 p9 .nil)
def Q18:FC:=(.exit 2)
def Q19:V:=(.int .i64 (.ofNat 0))
def Q20:List V:=[Q0, Q19, Q0, Q0, Q0, .nils, Q1, Q1, .nils, Q1, .nils, .nils, .nils]
def Q21:FO:=(.faddr 0 t5)
def Q22:FO:=(.nt s0)
def Q23:FO:=(.faddr 1 t5)
def Q24:FO:=(.bin .eql .eql 3 true s0 n0)
def Q25:FR:=(.op Q11 p20 .nil)
def Q26:FO:=(.bin .eql .eql 3 true s0 n1)
def Q27:FR:=(.op Q11 p4 .nil)
def Q28:FG:=(.on s0 true)
def Q29:FG:=(.on s1 true)
def Q30:FG:=(.on s2 true)
def Q31:FO:=(.pick s3 s0 b0)
def Q32:FR:=(.o Q21 (.o Q10 (.o (.call 26 [s3, s2, s0]) Q14)))
def Q33:FR:=(.op Q11 p9 .nil)
def Q34:FC:=(.reg (.o (.bin .add .add 3 true t9 n1) Q33))
def Q35:FA:=(.c .nilp)
def Q36:FR:=(.op Q11 p3 .nil)
def Q37:FO:=(.mv t3)
def Q38:FC:=(.seq (.reg (.op Q37 p9 .nil)) .ret)
def Q39:FA:=(.c .nils)
def Q40:FO:=(.mv Q39)
def Q41:FC:=(.reg (.op Q40 p7 .nil))
def Q42:FO:=(.ext s0 0)
def Q43:FO:=(.ext s1 1)
def Q44:FO:=(.mv s1)
def Q45:FO:=(.mv t5)
def Q46:FC:=(.reg (.op Q45 p7 .nil))
def Q47:FO:=(.mv b0)
def Q48:FC:=(.reg (.op Q47 p5 .nil))
def Q49:FO:=(.bin .gtr .gtr 3 true s0 n0)
def Q50:FR:=(.op Q11 p5 .nil)
def Q51:FO:=(.call 36 [s0])
def Q52:FR:=(.o (.sto 1 s0 s1) .nil)
def Q53:FR:=(.op Q11 p6 .nil)
def Q54:FO:=(.faddr 3 t3)
def Q55:FO:=(.sto 1 s0 s5)
def Q56:FR:=(.op Q11 p8 .nil)
def Q57:FO:=(.faddr 9 t3)
def Q58:FO:=(.faddr 8 t3)
def Q59:FR:=(.op Q11 p12 .nil)
def Q60:FO:=(.faddr 10 t3)
def Q61:FO:=(.faddr 0 t3)
def Q62:FR:=(.op Q11 p13 .nil)
def Q63:FO:=(.faddr 1 t3)
def Q64:FO:=(.faddr 6 t3)
def Q65:FR:=(.o (.sto 1 s0 s3) .nil)
def Q66:FR:=(.op Q47 p7 .nil)
def Q67:FC:=(.reg Q66)
def Q68:FO:=(.nilc s0)
def Q69:FO:=(.faddr 0 s0)
def Q70:FG:=(.on s3 true)
def Q71:FG:=(.on s4 true)
def Q72:FG:=(.on s5 true)
def Q73:FG:=(.on s6 true)
def Q74:FG:=(.on s7 true)
def Q75:FO:=(.faddr 1 s0)
def Q76:FG:=(.on s8 true)
def Q77:FO:=(.bin .neq .neq 9 true s0 q0)
def Q78:FO:=(.call 58 [s0])
def Q79:FR:=(.o (.sto 11 t2 s0) .nil)
def Q80:FO:=(.faddr 2 s0)
def Q81:FO:=(.mv s2)
def Q82:FC:=(.reg (.op (.nt t8) p10 .nil))
def Q83:FO:=(.ld1 (.f 1 t3))
def Q84:FR:=(.o (.sto 11 t9 s0) .nil)
def Q85:FO:=(.mv t7)
def Q86:FR:=(.o (.bin .geq .geq 3 true s0 n0) Q15)
def Q87:FA:=(.c (.int .u8 (.ofNat 0)))
def Q88:FC:=(.reg Q8)
def Q89:FO:=(.lenS t5)
def Q90:FO:=(.bin .lss .lss 3 false t7 s0)
def Q91:FA:=(.c (.int .u8 (.ofNat 128)))
def Q92:FC:=(.reg (.op Q7 p2 .nil))
def Q93:FR:=(.op Q7 p3 .nil)
def Q94:FC:=(.reg Q93)
def Q95:FO:=(.bin .lss .lss 3 false t3 s0)
def Q96:FO:=(.iadrA 256 1 (.c (.gp 0 0)) s0)
def Q97:FO:=(.bin .neq .neq 5 true s0 Q87)
def Q98:FO:=(.pick s6 s0 b0)
def Q99:FO:=(.bin .add .add 3 true t3 n1)
def Q100:FC:=(.reg (.o Q99 Q36))
def Q101:FO:=(.bin .add .add 3 true s0 n1)
def Q102:FO:=(.mv q0)
def Q103:FR:=(.op Q7 p5 .nil)
def Q104:FC:=(.reg (.op (.bin .lss .lss 3 false t5 t1) p2 .nil))
def Q105:FC:=(.cond t2 .skip Q9)
def Q106:FA:=(.c (.int .u8 (.ofNat 65)))
def Q107:FO:=(.bin .leq .leq 5 true s0 (.c (.int .u8 (.ofNat 90))))
def Q108:FO:=(.pick s2 s0 b0)
def Q109:FA:=(.c (.int .u8 (.ofNat 32)))
def Q110:FO:=(.bin .add .add 3 true t5 n1)
def Q111:FC:=(.reg (.o Q110 Q50))
def Q112:FO:=(.faddr 0 t7)
def Q113:FC:=(.reg (.op Q40 p4 .nil))
def Q114:FC:=(.cond t9 .skip Q9)
def Q115:FC:=(.seq (.reg (.o (.lenL t5) (.op Q95 p9 .nil))) Q114)
def Q116:List V:=[Q19, Q0, Q19, Q1, Q1, Q1, .nils]
def Q117:FO:=(.alloc Q116 131)
def Q118:FO:=(.bsl 100 Q116 1 7 [0] [s0])
def Q119:FC:=(.seq (.reg (.op Q85 p4 .nil)) .ret)
def Q120:FO:=(.call 73 [t3, n0])
def Q121:FA:=(.c (.int .i32 (.ofNat 47)))
def Q122:FO:=(.call 73 [s0, n1])
def Q123:FA:=(.c (.int .i32 (.ofNat 42)))
def Q124:FO:=(.bin .add .add 3 true s0 n2)
def Q125:FR:=(.chk t3 (.o (.sto 1 (.f 1 t3) s0) .nil))
def Q126:V:=(.int .i32 (.ofNat 0))
def Q127:FG:=(.on s0 false)
def Q128:FG:=(.on s1 false)
def Q129:FG:=(.on s2 false)
def Q130:FO:=(.pick s3 b1 s0)
def Q131:FC:=(.reg (.chk t3 (.o Q83 (.o Q101 Q125))))
def Q132:FO:=(.ld1 (.f 0 t3))
def Q133:List V:=[Q19, Q0, Q19, Q1, Q1, Q1]
def Q134:FC:=(.reg (.op Q40 p9 .nil))
def Q135:FR:=(.op Q47 p12 .nil)
def Q136:FC:=(.cond t4 .skip Q9)
def Q137:FC:=(.exit 1)
def Q138:FA:=(.c (.int .i32 (.ofNat 10)))
def Q139:FA:=(.c (.int .i32 (.ofNat 13)))
def Q140:FO:=(.bin .eql .eql 21 true t3 Q139)
def Q141:FA:=(.c (.int .i32 (.ofNat 12)))
def Q142:FO:=(.bsl 126 [Q126] 1 1 [0] [t3])
def Q143:FC:=(.reg (.op Q102 p2 .nil))
def Q144:FO:=(.iadr 1 t5 t3)
def Q145:FO:=(.iadr 1 s1 s0)
def Q146:FR:=(.op Q11 p2 .nil)
def Q147:FO:=(.bin .eql .eql 3 true s0 n19)
def Q148:FO:=(.bin .eql .eql 9 true s0 (.c (.str [123])))
def Q149:FO:=(.pick s4 s0 b0)
def Q150:FO:=(.lenL t3)
def Q151:FO:=(.iadr 7 s0 n0)
def Q152:FO:=(.bin .eql .eql 3 true s0 n13)
def Q153:FC:=(.cond t5 .skip Q9)
def Q154:FO:=(.bin .sub .sub 3 true s0 n1)
def Q155:FC:=(.cond t5 (.seq Q41 .ret) .skip)
def Q156:FR:=(.op Q44 p12 .nil)
def Q157:List V:=[Q0, Q19, Q0, Q0, Q0, .nils, Q1, Q1, .nils, Q1, .nils, .nils, .nils, Q19, Q19, Q19, Q19, Q19]
def Q158:FC:=(.reg (.op Q7 p6 .nil))
def Q159:FC:=(.reg (.op (.lenL t5) p9 Q93))
def Q160:FC:=(.reg (.op (.bin .lss .lss 3 false t3 t9) p1 .nil))
def Q161:FC:=(.cond t1 .skip Q9)
def Q162:FC:=(.reg (.op Q37 p7 .nil))
def Q163:FC:=(.cond t4 (.seq (.reg (.op Q85 p6 .nil)) .ret) .skip)
def Q164:FA:=(.c (.int .i64 (.negSucc 0)))
def Q165:FC:=(.seq (.reg (.op (.mv Q164) p6 .nil)) .ret)
def Q166:FR:=(.op Q47 p1 .nil)
def Q167:FC:=(.reg Q166)
def Q168:FA:=(.c (.int .i32 (.ofNat 9)))
def Q169:FO:=(.bin .eql .eql 21 true t3 Q138)
def Q170:FA:=(.c (.int .i32 (.ofNat 32)))
def Q171:FC:=(.reg (.op (.mv (.c .nilif)) p7 .nil))
def Q172:FC:=(.reg (.op Q102 p5 .nil))
def Q173:FR:=(.op Q7 p13 .nil)
def Q174:FO:=(.alloc [.nils, .nils, Q19] 113)
def Q175:FC:=(.seq (.reg (.op Q40 p5 (.op (.mv n2) p13 .nil))) .ret)
def Q176:FO:=(.bin .gtr .gtr 3 true s0 n16)
def Q177:FR:=(.op Q102 p9 .nil)
def Q178:FO:=(.bin .neq .neq 3 true s0 n1)
def Q179:FO:=(.ldN 7 s0)
def Q180:FO:=(.iadr 6 t5 t3)
def Q181:FO:=(.ldN 6 s0)
def Q182:FR:=(.o (.sto 7 s0 s1) .nil)
def Q183:FO:=(.ldN 7 t7)
def Q184:FC:=(.seq (.reg (.o Q183 (.o (.sto 7 t9 s0) (.op Q37 p13 .nil)))) .ret)
def Q185:FO:=(.bin .eql .eql 3 true s0 n20)
def Q186:FO:=(.bin .eql .eql 9 false s1 s0)
def Q187:FO:=(.pick s7 s0 b0)
def Q188:FO:=(.bin .add .add 3 true t2 n1)
def Q189:FO:=(.bin .add .add 3 false s0 t5)
def Q190:FO:=(.alloc Q133 129)
def Q191:FC:=(.reg (.op Q190 p7 .nil))
def Q192:FA:=(.c (.int .i32 (.ofNat 40)))
def Q193:FR:=(.o (.sto 6 s0 s1) .nil)
def Q194:FR:=(.o (.sto 6 t7 s0) .nil)
def Q195:FA:=(.c (.int .i32 (.ofNat 34)))
def Q196:FO:=(.bin .eql .eql 21 true s0 (.c (.int .i32 (.ofNat 39))))
def Q197:FO:=(.pick s2 b1 s0)
def Q198:FO:=(.call 99 [t3])
def Q199:FA:=(.c (.int .i32 (.ofNat 45)))
def Q200:FO:=(.bin .eql .eql 21 true s0 Q199)
def Q201:FG:=(.on s3 false)
def Q202:FG:=(.on s7 false)
def Q203:FO:=(.pick s8 b1 s0)
def Q204:FC:=(.reg (.chk t3 (.o Q132 (.o Q6 Q15))))
def Q205:FR:=(.op Q47 p4 .nil)
def Q206:FO:=(.ld1 (.f 0 t5))
def Q207:FO:=(.alloc [Q1, Q19, .nils, .nils, .nils] 110)
def Q208:FO:=(.alloc [Q19, Q19, Q19] 115)
def Q209:FG:=(.on t4 false)
def Q210:FO:=(.pick s4 b1 s0)
def Q211:FO:=(.bsl 189 [.nils] 1 1 [0] [Q39])
def Q212:FO:=(.iadr 7 t3 t7)
def Q213:FC:=(.reg (.op (.box 131 t3) p5 Q66))
def Q214:FO:=(.call 42 [s0])
def Q215:FO:=(.call 73 [t3, t5])
def Q216:FG:=(.on s4 false)
def Q217:FR:=(.o (.call 93 [s0]) (.o (.bin .add .add 9 false t5 s0) Q50))
def Q218:FR:=(.o (.sto 6 t9 s0) .nil)
def Q219:FC:=(.seq (.reg (.o (.bld Q133 [(0, 1), (1, 1), (2, 1), (3, 1), (4, 1), (5, 1)] [0, 1] [n2, t7]) Q218)) .ret)
def Q220:FO:=(.ldN 3 s0)
def Q221:FO:=(.bin .lss .lss 3 true s0 n0)
def Q222:FG:=(.on s5 false)
def Q223:FG:=(.on s6 false)
def Q224:FG:=(.on s8 false)
def Q225:FG:=(.on s9 false)
def Q226:FG:=(.on s10 false)
def Q227:FG:=(.on s11 false)
def Q228:FC:=(.reg (.o (.call 132 [t5]) .nil))
def Q229:List V:=[Q19, Q0, Q0, Q0, Q1, Q19, Q19, .nils]
def Q230:FO:=(.bin .lss .lss 3 true s0 n2)
def Q231:FO:=(.bin .eql .eql 3 true s0 n16)
def Q232:FC:=(.seq (.reg (.op Q7 p4 .nil)) .ret)
def Q233:FC:=(.reg (.o (.call 132 [t3]) .nil))
def Q234:FC:=(.reg (.chk t3 (.o Q132 (.o Q6 (.op Q24 p7 .nil)))))
def Q235:FC:=(.seq (.reg (.o (.ldN 7 t5) (.o (.sto 7 t5 s0) .nil))) .ret)
def Q236:FR:=(.o (.sto 8 t5 s0) (.op (.mv b1) p4 .nil))
def Q237:FO:=(.ld1 t3)
def Q238:FO:=(.ld1 (.f 1 s0))
def ff7:FFn:=(.mk [d13, d15, d6] [(.c t16 27)] (.seq (.reg (.op (.box 27 t6) p2 (.op Q3 p16 .nil))) (.seq (.reg (.o Q4 (.op Q3 p17 Q5))) (.seq (.reg (.o Q4 (.op Q3 p3 Q5))) (.seq (.seq (.reg (.op (.call 24 []) p12 (.op Q6 p8 Q8))) (.block 0 (.loop (.seq (.reg (.op (.bin .lss .lss 3 false t7 t8) p10 .nil)) (.seq (.cond t10 .skip Q9) (.seq (.block 1 (.seq (.reg (.o (.iadr 1 t12 t7) (.o Q10 Q12))) (.seq (.reg (.op (.call 25 [t1]) p11 .nil)) (.cond t11 (.reg (.o Q13 (.o (.ldN 11 t2) (.o (.call 26 [s1, s0, t1]) Q14)))) .skip)))) Q16)))))) (.seq (.seq (.reg (.op (.mv t13) p18 (.op Q6 p14 Q17))) (.block 2 (.loop (.seq (.reg (.op (.bin .lss .lss 3 false t9 t14) p0 .nil)) (.seq (.cond t0 .skip Q18) (.seq (.block 3 (.seq (.reg (.o (.iadr 13 t18 t9) (.o (.ldN 13 s0) (.op (.alloc Q20 32) p5 (.o (.sto 13 s0 s1) .nil))))) (.block 4 (.seq (.reg (.o Q21 (.o Q10 (.o (.call 22 [t15, s0]) (.o Q22 (.op Q11 p19 .nil)))))) (.cond t19 .skip (.seq (.reg (.o Q23 (.o Q10 (.o Q24 Q25)))) (.cond t20 (.reg (.o Q13 (.o (.faddr 2 t5) (.o (.ldN 11 s0) (.o Q21 (.o Q10 (.o (.call 26 [s4, s2, s0]) Q14))))))) (.seq (.seq (.reg (.o Q23 (.o Q10 (.o Q26 Q27)))) (.cond t4 .skip (.reg (.o Q23 (.o Q10 (.o (.bin .eql .eql 3 true s0 n3) (.g Q28 Q21 none (.g Q29 Q10 none (.g Q30 (.call 25 [s0]) none (.o Q31 Q27)))))))))) (.cond t4 (.reg (.o Q13 (.o (.ldN 11 t2) Q32))) (.reg (.o Q13 (.o (.ldN 11 t17) Q32)))))))))))) Q34)))))) (.seq (.reg (.o Q13 (.o (.sto 11 t16 s0) .nil))) .ret)))))))
theorem dec7 : dF [8, 12, 17, 30, 10, 5, 55, 2, 16, 18, 15, 22, 0, 29, 31, 28, 1, 39, 45, 7, 6] 3 7 = some ff7 := by kernel_rfl
def ff18:FFn:=(.mk [d3, d5] [(.t t7)] (.seq (.reg (.op (.mv Q35) p7 .nil)) (.seq (.reg (.o (.slow ((Go.Oper.op (Go.Oper.mk (some 7) (Go.Op.makeMap 77 none) 77 "computed.go:58" List.nil.toArray none))) []) (.o (.bld [.nilp, .nilp, .nilmap] [(0, 1), (1, 1), (2, 1)] [0, 1, 2] [t3, t5, s0]) (.o (.box 79 s0) Q15)))) .ret)))
theorem dec18 : dF [0, 1, 4] 2 18 = some ff18 := by kernel_rfl
def ff19:FFn:=(.mk [d7, d5] [(.t t9)] (.seq (.reg (.op (.mv Q35) p9 .nil)) (.seq (.reg (.o (.bld [.nils, .nilp, .nils] [(0, 1), (1, 1), (2, 1)] [] []) (.o (.box 83 s0) Q36))) (.seq (.reg (.o (.call 33 [t3, t7, b1, n0]) (.o (.call 33 [t3, t5, b0, s0]) .nil))) Q38))))
theorem dec19 : dF [5, 1, 0, 4] 2 19 = some ff19 := by kernel_rfl
def ff20:FFn:=(.mk [d3] [(.t t7)] (.seq Q41 (.seq (.reg (.o (.slow (Go.Op.convert 9 87 (Go.Operand.tmp 6)) [(6, t3)]) (.o (.call 34 [s0]) (.o Q42 (.o Q43 (.op Q44 p5 .nil)))))) (.seq Q46 .ret))))
theorem dec20 : dF [0, 3, 2] 1 20 = some ff20 := by kernel_rfl
def ff23:FFn:=(.mk [] [(.c t3 27)] (.seq (.reg (.op Q3 p3 .nil)) (.seq (.reg (.o (.bld Q2 [(0, 1), (1, 1), (2, 1), (3, 1), (4, 1), (5, 1), (6, 1), (7, 1), (8, 1), (9, 1), (10, 1)] [0, 1, 2, 4, 7] [(.c (.str [105, 110, 108, 105, 110, 101])), (.c (.str [100, 105, 115, 99])), (.c (.str [98, 108, 97, 99, 107])), b1, b1]) Q14)) .ret)))
theorem dec23 : dF [0] 0 23 = some ff23 := by kernel_rfl
def ff24:FFn:=(.mk [] [(.t t3)] (.seq (.reg (.op Q40 p3 .nil)) (.seq (.reg (.o (.call 39 [(.c (.str [99, 111, 108, 111, 114, 32, 99, 111, 110, 116, 101, 110, 116, 32, 99, 111, 117, 110, 116, 101, 114, 45, 105, 110, 99, 114, 101, 109, 101, 110, 116, 32, 99, 111, 117, 110, 116, 101, 114, 45, 114, 101, 115, 101, 116, 32, 99, 111, 117, 110, 116, 101, 114, 45, 115, 101, 116, 32, 100, 105, 115, 112, 108, 97, 121, 32, 108, 105, 115, 116, 45, 115, 116, 121, 108, 101, 45, 116, 121, 112, 101, 32, 113, 117, 111, 116, 101, 115]))]) Q36)) .ret)))
theorem dec24 : dF [0] 0 24 = some ff24 := by kernel_rfl
def ff25:FFn:=(.mk [d3] [(.t t5)] (.seq Q48 (.seq (.reg (.o (.call 40 [(.c (.str [99, 111, 108, 111, 114, 32, 108, 105, 115, 116, 45, 115, 116, 121, 108, 101, 45, 116, 121, 112, 101, 32, 113, 117, 111, 116, 101, 115])), t3]) (.o Q49 Q50))) .ret)))
theorem dec25 : dF [0, 2] 1 25 = some ff25 := by kernel_rfl
def ff26:FFn:=(.mk [d9, d1, d2] [(.c t0 27)] (.seq (.reg (.op (.box 27 t9) p3 (.op (.box 27 t1) p5 (.op Q3 p0 .nil)))) (.seq (.regL (.o Q13 (.o Q51 (.o (.ldN 11 t5) (.o Q51 (.o (.sto 11 t3 s2) (.o (.sto 11 t5 s1) .nil)))))) [] [(2, 1)]) (.seq (.seq (.reg (.op (.mv t2) p7 .nil)) (.block 0 (.seq (.reg (.o (.bin .eql .eql 9 true t7 (.c (.str [99, 111, 108, 111, 114]))) Q27)) (.cond t4 (.reg (.o (.faddr 2 t5) (.o Q10 (.o (.faddr 2 t3) Q52)))) (.seq (.reg (.o (.bin .eql .eql 9 true t7 (.c (.str [99, 111, 110, 116, 101, 110, 116]))) Q53)) (.cond t6 (.regL (.o (.faddr 3 t5) (.o Q10 (.o (.faddr 4 t5) (.o Q10 (.o (.faddr 5 t5) (.o Q10 (.o Q54 (.o Q55 (.o (.faddr 4 t3) (.o Q55 (.o (.faddr 5 t3) (.o Q55 .nil)))))))))))) [(3, 7), (5, 7), (5, 9)] []) (.seq (.reg (.o (.bin .eql .eql 9 true t7 (.c (.str [99, 111, 117, 110, 116, 101, 114, 45, 105, 110, 99, 114, 101, 109, 101, 110, 116]))) Q56)) (.cond t8 (.reg (.o (.faddr 9 t5) (.o Q10 (.o Q57 Q52)))) (.seq (.reg (.o (.bin .eql .eql 9 true t7 (.c (.str [99, 111, 117, 110, 116, 101, 114, 45, 114, 101, 115, 101, 116]))) (.op Q11 p10 .nil))) (.cond t10 (.reg (.o (.faddr 8 t5) (.o Q10 (.o Q58 Q52)))) (.seq (.reg (.o (.bin .eql .eql 9 true t7 (.c (.str [99, 111, 117, 110, 116, 101, 114, 45, 115, 101, 116]))) Q59)) (.cond t12 (.reg (.o (.faddr 10 t5) (.o Q10 (.o Q60 Q52)))) (.seq (.reg (.o (.bin .eql .eql 9 true t7 (.c (.str [100, 105, 115, 112, 108, 97, 121]))) (.op Q11 p11 .nil))) (.cond t11 (.reg (.o Q21 (.o Q10 (.o Q61 Q52)))) (.seq (.reg (.o (.bin .eql .eql 9 true t7 (.c (.str [108, 105, 115, 116, 45, 115, 116, 121, 108, 101, 45, 116, 121, 112, 101]))) Q62)) (.cond t13 (.reg (.o Q23 (.o Q10 (.o Q63 Q52)))) (.seq (.reg (.o (.bin .eql .eql 9 true t7 (.c (.str [113, 117, 111, 116, 101, 115]))) (.op Q11 p14 .nil))) (.cond t14 (.regL (.o (.faddr 6 t5) (.o Q10 (.o (.faddr 7 t5) (.o Q10 (.o Q64 (.o (.sto 1 s0 s3) (.o (.faddr 7 t3) Q65))))))) [(3, 5)] []) .skip)))))))))))))))))) (.seq (.reg (.o Q13 (.o (.sto 11 t0 s0) .nil))) .ret)))))
theorem dec26 : dF [3, 4, 11, 0, 1, 2, 12, 17, 28, 33, 38, 43, 48, 53, 6] 3 26 = some ff26 := by kernel_rfl
def ff35:FFn:=(.mk [d3, d5] [(.t t7)] (.seq Q67 (.seq (.reg (.o (.call 55 [t3, t5]) (.g Q28 Q37 none (.g Q29 Q68 none (.g Q30 Q69 none (.g Q70 Q10 none (.g Q71 Q45 none (.g Q72 (.iadr 6 s1 s0) none (.g Q73 Q69 none (.g Q74 Q75 none (.g Q76 Q10 none (.g (.on s9 true) Q77 none (.o (.pick s10 s0 b0) Q15))))))))))))) .ret)))
theorem dec35 : dF [0, 1, 4] 2 35 = some ff35 := by kernel_rfl
def ff36:FFn:=(.mk [d5] [(.c t7 27)] (.seq (.reg (.op (.box 27 t5) p3 (.op Q3 p7 .nil))) (.seq (.regL (.o Q54 (.o Q10 (.o (.call 56 [s0]) (.o Q64 (.o Q10 (.o (.call 57 [s0]) (.o Q54 (.o (.sto 1 s0 s4) (.o Q64 Q65))))))))) [] [(4, 2)]) (.seq (.regL (.o Q58 (.o Q10 (.o Q78 (.o Q57 (.o Q10 (.o Q78 (.o Q60 (.o Q10 (.o Q78 (.o Q58 (.o (.sto 1 s0 s7) (.o Q57 (.o (.sto 1 s0 s6) (.o Q60 (.o Q55 .nil))))))))))))))) [] [(4, 2), (7, 2), (7, 5)]) (.seq (.reg (.o Q13 (.o (.sto 11 t7 s0) .nil))) .ret)))))
theorem dec36 : dF [1, 0, 2] 1 36 = some ff36 := by kernel_rfl
def ff37:FFn:=(.mk [d3, d5, d7] [(.c t2 27)] (.seq (.reg (.op Q3 p2 .nil)) (.seq (.seq (.reg (.op (.bin .lss .lss 3 true t5 n0) p6 .nil)) (.cond t6 (.seq (.reg (.o Q4 Q79)) .ret) .skip)) (.seq (.reg (.o (.slow (Go.Op.build 138 (List.toArray (List.cons (Prod.mk 0 (Go.Operand.tmp 14)) (List.cons (Prod.mk 1 (Go.Operand.tmp 15)) List.nil)))) [(14, t5), (15, t7)]) (.op (.alloc [Q19, Q19] 138) p4 (.o (.sto 2 s0 s1) .nil)))) (.seq (.reg (.o Q3 (.gh s0 27 Q2 (.o Q37 (.o Q68 (.o Q80 (.o Q10 (.o (.ldN 2 t4) (.o (.slow ((Go.Oper.op (Go.Oper.mk (some 23) (Go.Op.lookup 77 (Go.Operand.tmp 21) (Go.Operand.tmp 22) Bool.true) 61 "computed.go:67" (List.toArray (List.cons (Go.Edge.mk 3 Go.Ground.data) (List.cons (Go.Edge.mk 4 Go.Ground.data) List.nil))) none))) [(21, s1), (22, s0)]) (.gh s6 27 Q2 (.o Q11 (.o Q42 (.o Q43 (.op (.mv s9) p1 (.o (.sto 11 s0 s2) (.op Q81 p8 .nil)))))))))))))))) (.seq (.seq Q82 (.cond t10 (.seq (.reg (.op Q3 p9 .nil)) (.seq (.seq (.reg (.op (.bin .eql .eql 3 true t7 n0) p12 .nil)) (.cond t12 (.reg (.chk t3 (.o Q83 (.o (.call 59 [s0, t5]) (.o (.call 37 [t3, s0, n0]) Q84))))) (.reg (.o (.call 37 [t3, t5, n0]) Q84)))) (.seq (.regL (.o Q37 (.o Q68 (.o Q69 (.o Q10 (.o Q37 (.o Q68 (.o Q75 (.o Q10 (.o Q45 (.o Q85 (.o (.call 60 [s6, s2, s1, s0]) (.o Q85 (.o (.ldN 11 t9) (.o (.call 7 [s2, s1, s0]) (.o (.sto 11 t1 s0) .nil))))))))))))))) [] [(12, 10)]) (.reg (.chk t3 (.o (.ld1 (.f 2 t3)) (.o (.ldN 2 t4) (.o (.ldN 11 t1) (.o (.slow ((Go.Oper.op (Go.Oper.mk none (Go.Op.mapUpdate 77 (Go.Operand.tmp 58) (Go.Operand.tmp 59) (Go.Operand.tmp 60)) 0 "computed.go:76" (List.toArray (List.cons (Go.Edge.mk 3 Go.Ground.data) (List.cons (Go.Edge.mk 4 Go.Ground.data) (List.cons (Go.Edge.mk 5 Go.Ground.data) (List.cons (Go.Edge.mk 0 Go.Ground.phase) (List.cons (Go.Edge.mk 1 Go.Ground.phase) (List.cons (Go.Edge.mk 2 Go.Ground.phase) (List.cons (Go.Edge.mk 3 Go.Ground.phase) (List.cons (Go.Edge.mk 4 Go.Ground.phase) (List.cons (Go.Edge.mk 5 Go.Ground.phase) List.nil)))))))))) none))) [(58, s2), (59, s1), (60, s0)]) .nil))))))))) .skip)) (.seq (.reg (.o (.ldN 11 t1) Q79)) .ret)))))))
theorem dec37 : dF [0, 1, 2, 10, 8, 6, 7, 12, 9, 27, 29] 3 37 = some ff37 := by kernel_rfl
def ff38:FFn:=(.mk [d3, d5] [(.t t7)] (.seq Q67 (.seq (.reg (.o (.call 61 [t3, t5]) Q86)) .ret)))
theorem dec38 : dF [0, 1, 4] 2 38 = some ff38 := by kernel_rfl
def ff39:FFn:=(.mk [d5] [(.t t20)] (.seq (.reg (.op Q40 p20 .nil)) (.seq (.reg (.op Q7 p8 .nil)) (.seq (.reg (.op (.mv n1) p11 .nil)) (.seq (.reg (.op (.mv Q87) p4 .nil)) (.seq (.seq Q88 (.block 0 (.loop (.seq (.seq (.reg (.o Q89 (.op Q90 p12 .nil))) (.cond t12 .skip Q9)) (.seq (.block 1 (.seq (.reg (.o (.idxS t5 t7) Q53)) (.seq (.reg (.o (.bin .or .or 5 false t4 t6) Q27)) (.seq (.reg (.o (.iadrA 256 1 (.c (.gp 0 0)) t6) (.o Q10 (.o (.conv .i64 s0) (.op Q11 p10 .nil))))) (.seq (.reg (.o (.un .xor t10) (.o (.bin .and .and 3 false t11 s0) (.o (.bin .add .add 3 false t8 s0) Q56)))) (.reg (.op (.mv t10) p11 .nil))))))) Q16))))) (.seq (.seq (.reg (.op (.bin .geq .geq 5 true t4 Q91) p13 .nil)) (.cond t13 (.seq (.reg (.o (.call 62 [t5, (.c (.fn 63 [] []))]) Q25)) .ret) .skip)) (.seq (.reg (.o (.msl 24 t8 t8) Q33)) (.seq (.reg (.op Q7 p1 .nil)) (.seq Q92 (.seq Q94 (.seq (.block 2 (.loop (.seq (.seq (.reg (.o Q89 (.o Q95 (.g Q28 Q45 none (.g Q29 Q37 none (.g Q30 (.idxS s1 s0) none (.g Q70 Q96 none (.g Q71 Q10 none (.g Q72 Q97 none (.op Q98 p14 .nil)))))))))) (.cond t14 .skip Q18)) (.block 3 Q100)))) (.seq (.reg (.op Q37 p2 .nil)) (.seq (.block 4 (.loop (.seq (.seq (.reg (.o Q89 (.op Q95 p0 .nil))) (.cond t0 .skip (.exit 4))) (.block 5 (.seq (.seq (.reg (.o (.idxS t5 t3) (.o Q96 (.o Q10 (.op (.bin .eql .eql 5 true s0 Q87) p18 .nil))))) (.cond t18 (.seq Q100 (.exit 5)) .skip)) (.seq (.reg (.o (.sliS 9 t5 (some t2) (some t3)) (.o (.iadr 1 t9 t1) Q52))) (.seq (.reg (.o (.bin .add .add 3 true t1 n1) Q12)) (.seq Q100 (.seq (.block 6 (.loop (.seq (.seq (.reg (.o Q89 (.o Q95 (.g Q28 Q45 none (.g Q29 Q37 none (.g Q30 (.idxS s1 s0) none (.g Q70 Q96 none (.g Q71 Q10 none (.g Q72 Q97 none (.op Q98 p15 .nil)))))))))) (.cond t15 .skip (.exit 6))) (.block 7 Q100)))) (.reg (.op Q37 p2 .nil))))))))))) (.seq (.seq (.reg (.o Q89 (.op (.bin .lss .lss 3 false t2 s0) p19 .nil))) (.cond t19 (.reg (.o (.sliS 9 t5 (some t2) none) (.o (.iadr 1 t9 t1) Q52))) .skip)) (.seq (.reg (.op (.mv t9) p20 .nil)) .ret))))))))))))))))
theorem dec39 : dF [12, 0, 6, 9, 10, 11, 5, 7, 3, 8, 16, 4, 37, 53, 60, 66, 91, 98, 2] 1 39 = some ff39 := by kernel_rfl
def ff40:FFn:=(.mk [d3, d5] [(.t t7)] (.seq Q88 (.seq (.reg (.o (.call 39 [t3]) (.o (.call 61 [s0, t5]) (.o Q101 Q15)))) .ret)))
theorem dec40 : dF [0, 1, 4] 2 40 = some ff40 := by kernel_rfl
def ff42:FFn:=(.mk [d7] [(.t t8)] (.seq (.reg (.op Q102 p8 .nil)) (.seq (.reg (.op (.alloc [.nilp, .nils] 147) p9 .nil)) (.seq (.seq (.reg (.op (.lenS t7) p1 Q103)) (.block 0 (.loop (.seq Q104 (.seq Q105 (.seq (.block 1 (.seq (.reg (.op Q45 p4 .nil)) (.seq (.reg (.o (.idxS t7 t4) Q36)) (.seq (.seq (.reg (.o (.bin .geq .geq 5 true t3 Q106) (.g Q28 Q37 none (.g Q29 Q107 none (.op Q108 p6 .nil))))) (.cond t6 (.reg (.o (.bin .add .add 5 true t3 Q109) Q36)) .skip)) (.reg (.o (.call 64 [t9, t3]) .nil)))))) Q111)))))) (.seq (.reg (.o (.call 65 [t9]) Q56)) .ret)))))
theorem dec42 : dF [5, 8, 0, 3, 7, 9, 4, 19, 2] 1 42 = some ff42 := by kernel_rfl
def ff43:FFn:=(.mk [d3, d5] [(.t t7)] (.seq Q67 (.seq (.reg (.o (.call 66 [t3, t5]) Q86)) .ret)))
theorem dec43 : dF [0, 1, 4] 2 43 = some ff43 := by kernel_rfl
def ff44:FFn:=(.mk [d3, d7] [(.t t9)] (.seq (.reg (.op (.box 97 t3) p5 (.op Q47 p9 .nil))) (.seq (.reg (.o Q21 (.o Q10 (.o Q112 (.o Q10 (.o (.bin .eql .eql 9 false s2 s0) Q33)))))) .ret)))
theorem dec44 : dF [0, 2, 1, 3] 2 44 = some ff44 := by kernel_rfl
def ff45:FFn:=(.mk [d3] [(.t t5), (.t t7)] (.seq (.reg (.op Q40 p5 Q8)) (.seq (.reg (.o (.call 67 [t3, n0]) (.o Q42 (.o Q43 (.op Q44 p5 (.op Q44 p7 .nil)))))) .ret)))
theorem dec45 : dF [0, 2, 3] 1 45 = some ff45 := by kernel_rfl
def ff48:FFn:=(.mk [d5] [(.t t4)] (.seq Q113 (.seq Q41 (.seq (.seq Q94 (.block 0 (.loop (.seq Q115 (.block 1 (.seq (.reg (.o (.call 72 [t5, t3, n1]) (.o Q42 (.o Q43 (.op Q117 p1 (.o (.sto 7 s0 s2) (.op Q81 p2 .nil))))))) (.seq (.reg (.o (.ldN 7 t1) (.o Q118 (.o (.app 131 7 64 t7 s0) Q15)))) (.reg (.op (.mv t2) p3 .nil))))))))) Q119))))
theorem dec48 : dF [4, 0, 3, 10, 5, 6, 2] 1 48 = some ff48 := by kernel_rfl
def ff49:FFn:=(.mk [d7] [(.t t4)] (.seq Q113 (.seq (.reg (.o (.bld [.nils, Q19] [(0, 1), (1, 1)] [0] [t7]) (.o (.box 167 s0) Q36))) (.seq (.reg (.op Q40 p5 .nil)) (.block 0 (.loop (.block 1 (.seq (.block 2 (.loop (.seq (.seq (.reg (.o Q120 (.o (.bin .eql .eql 21 true s0 Q121) (.g Q28 Q37 none (.g Q29 Q122 none (.g Q30 (.bin .eql .eql 21 true s0 Q123) none (.op Q31 p9 .nil))))))) (.cond t9 .skip Q18)) (.block 3 (.seq (.reg (.chk t3 (.o Q83 (.o Q124 Q125)))) (.seq (.block 4 (.loop (.seq (.seq (.reg (.o Q120 (.o (.bin .geq .geq 21 true s0 (.c Q126)) (.g Q28 Q37 none (.g Q29 (.call 73 [s0, n0]) none (.g Q30 (.bin .neq .neq 21 true s0 Q123) none (.g Q70 Q11 none (.g Q127 Q37 none (.g Q128 Q122 none (.g Q129 (.bin .neq .neq 21 true s0 Q121) none (.g Q74 Q130 none (.op (.pick s8 s0 b0) p1 .nil)))))))))))) (.cond t1 .skip (.exit 4))) (.block 5 Q131)))) (.reg (.chk t3 (.o Q83 (.o Q124 (.chk t3 (.o Q132 (.o Q6 (.o (.slow (Go.Op.call (Go.Call.mk (Go.Callee.builtin Go.Builtin.min) (List.toArray (List.cons (Go.Operand.tmp 49) (List.cons (Go.Operand.tmp 54) List.nil))) (List.toArray (List.cons 3 (List.cons 3 List.nil))))) [(49, s2), (54, s0)]) Q125)))))))))))))) (.seq (.seq (.reg (.o Q120 (.op (.bin .lss .lss 21 true s0 (.c Q126)) p2 .nil))) (.cond t2 (.seq (.reg (.op Q45 p4 .nil)) .ret) .skip)) (.reg (.o (.call 74 [t3]) (.o (.bsl 124 Q133 1 6 [0] [s0]) (.o (.app 129 6 40 t5 s0) Q50)))))))))))))
theorem dec49 : dF [3, 4, 0, 15, 36, 60, 2] 1 49 = some ff49 := by kernel_rfl
def ff50:FFn:=(.mk [d1] [(.t t14)] (.seq (.reg (.op Q40 p14 .nil)) (.seq Q134 (.seq (.reg (.op (.mv b1) p8 Q135)) (.seq (.seq (.reg (.o (.slow (Go.Op.convert 87 9 (Go.Operand.tmp 8)) [(8, t1)]) (.op (.rng 9 s0) p2 .nil))) (.block 0 (.loop (.seq (.reg (.op (.nxt t2) p6 (.op Q42 p4 .nil))) (.seq Q136 (.block 1 (.seq (.reg (.o (.ext t6 2) Q36)) (.seq (.seq (.reg (.g (.on t8 true) Q37 none (.g (.on t8 true) (.bin .eql .eql 21 true s0 (.c (.int .i32 (.ofNat 65279)))) none (.op (.pick t8 s0 b0) p10 .nil)))) (.cond t10 (.seq (.reg (.op Q47 p8 .nil)) Q137) .skip)) (.seq (.reg (.op Q47 p8 .nil)) (.seq (.seq (.reg (.g (.on t12 true) Q37 none (.g (.on t12 true) (.bin .eql .eql 21 true s0 Q138) none (.op (.pick t12 s0 b0) p11 .nil)))) (.cond t11 (.seq (.reg Q135) Q137) .skip)) (.seq (.reg (.o Q140 Q59)) (.seq (.seq (.reg (.op Q37 p5 .nil)) (.block 2 (.seq (.seq (.reg (.o (.bin .eql .eql 21 true t5 Q139) Q15)) (.cond t7 .skip (.reg (.o (.bin .eql .eql 21 true t5 Q141) Q15)))) (.cond t7 (.reg (.op (.mv Q138) p3 .nil)) (.seq (.reg (.o (.bin .eql .eql 21 true t5 (.c Q126)) Q62)) (.cond t13 (.reg (.op (.mv (.c (.int .i32 (.ofNat 65533)))) p3 .nil)) .skip)))))) (.reg (.o Q142 (.o (.app 21 1 4 t9 s0) Q33))))))))))))))) (.seq (.reg (.op (.mv t9) p14 .nil)) .ret))))))
theorem dec50 : dF [7, 26, 27, 3, 0, 10, 12, 11, 4, 18, 5, 23, 30, 2] 1 50 = some ff50 := by kernel_rfl
def ff51:FFn:=(.mk [d7] [(.t t2)] (.seq Q143 (.seq (.reg (.o (.slow (Go.Op.convert 9 87 (Go.Operand.tmp 5)) [(5, t7)]) Q50)) (.seq (.seq Q94 (.block 0 (.loop (.seq Q115 (.seq (.block 1 (.seq (.reg (.o Q144 (.o Q10 (.o (.bin .geq .geq 5 true s0 Q106) (.g Q28 Q45 none (.g Q29 Q37 none (.g Q30 Q145 none (.g Q70 Q10 none (.g Q71 Q107 none (.op (.pick s5 s0 b0) p1 .nil)))))))))) (.cond t1 (.reg (.o Q144 (.o Q10 (.o (.bin .add .add 5 true s0 Q109) (.o Q144 Q52))))) .skip))) Q100))))) (.seq (.reg (.o (.slow (Go.Op.convert 87 9 (Go.Operand.tmp 33)) [(33, t5)]) Q146)) .ret)))))
theorem dec51 : dF [4, 3, 0, 10, 24, 2] 1 51 = some ff51 := by kernel_rfl
def ff52:FFn:=(.mk [d5] [(.t t7)] (.seq (.reg (.op (.box 131 t5) p3 Q66)) (.seq (.reg (.o Q61 (.o Q69 (.o Q10 (.o Q147 (.g Q28 Q61 none (.g Q29 Q75 none (.g Q30 Q10 none (.g Q70 Q148 none (.o Q149 Q15)))))))))) .ret)))
theorem dec52 : dF [1, 0, 2] 1 52 = some ff52 := by kernel_rfl
def ff53:FFn:=(.mk [d3] [(.t t9)] (.seq Q134 (.seq (.block 0 (.loop (.seq (.seq (.reg (.o Q150 (.o Q49 (.g Q28 Q37 none (.g Q29 Q151 none (.g Q30 Q69 none (.g Q70 Q69 none (.g Q71 Q10 none (.g Q72 Q152 none (.op Q98 p5 .nil)))))))))) Q153) (.block 1 (.reg (.o (.slow (Go.Op.slice 100 (Go.Operand.tmp 14) (some (Go.Operand.const (Go.Value.int Go.IntKind.i64 1))) none none) [(14, t3)]) Q36)))))) (.seq (.block 2 (.loop (.seq (.seq (.reg (.o Q150 (.o Q49 (.g Q28 Q37 none (.g Q29 Q37 none (.g Q30 Q6 none (.g Q70 Q154 none (.g Q71 (.iadr 7 s3 s0) none (.g Q72 Q69 none (.g Q73 Q69 none (.g Q74 Q10 none (.g Q76 Q152 none (.op (.pick s9 s0 b0) p7 .nil))))))))))))) (.cond t7 .skip Q18)) (.block 3 (.reg (.o Q150 (.o Q154 (.o (.slow (Go.Op.slice 100 (Go.Operand.tmp 30) none (some (Go.Operand.tmp 33)) none) [(30, t3), (33, s0)]) Q36)))))))) Q38))))
theorem dec53 : dF [0, 13, 29, 2] 1 53 = some ff53 := by kernel_rfl
def ff55:FFn:=(.mk [d5, d3] [(.t t7)] (.seq Q67 (.seq (.reg (.o (.bin .geq .geq 3 true t3 n0) (.g Q28 Q37 none (.g Q29 Q45 none (.g Q30 (.call 77 [s0]) none (.g Q70 (.bin .lss .lss 3 false s2 s0) none (.o Q149 Q15))))))) .ret)))
theorem dec55 : dF [1, 0, 4] 2 55 = some ff55 := by kernel_rfl
def ff56:FFn:=(.mk [d3] [(.t t7)] (.seq Q41 (.seq (.seq (.reg (.op (.bin .eql .eql 23 true t3 Q39) p5 .nil)) Q155) (.seq (.reg (.o (.bsl 23 [] 0 4 [] []) (.o (.app 46 4 56 s0 t3) Q15))) .ret))))
theorem dec56 : dF [0, 4, 2] 1 56 = some ff56 := by kernel_rfl
def ff57:FFn:=(.mk [d3] [(.t t7)] (.seq Q41 (.seq (.seq (.reg (.op (.bin .eql .eql 24 true t3 Q39) p5 .nil)) Q155) (.seq (.reg (.o (.bsl 24 [] 0 1 [] []) (.o (.app 9 1 16 s0 t3) Q15))) .ret))))
theorem dec57 : dF [0, 4, 2] 1 57 = some ff57 := by kernel_rfl
def ff58:FFn:=(.mk [d3] [(.t t7)] (.seq Q41 (.seq (.seq (.reg (.op (.bin .eql .eql 25 true t3 Q39) p5 .nil)) Q155) (.seq (.reg (.o (.bsl 25 [] 0 4 [] []) (.o (.app 68 4 32 s0 t3) Q15))) .ret))))
theorem dec58 : dF [0, 4, 2] 1 58 = some ff58 := by kernel_rfl
def ff60:FFn:=(.mk [d9, d1, d2, d4] [(.t t7)] (.seq Q41 (.seq (.reg (.o (.call 78 [t9, t1, t2, t4]) (.o Q42 (.o Q43 Q156)))) (.seq (.seq (.reg (.op (.call 24 []) p10 (.op Q6 p6 Q93))) (.block 0 (.loop (.seq (.reg (.op (.bin .lss .lss 3 false t3 t6) p8 .nil)) (.seq (.cond t8 .skip Q9) (.seq (.block 1 (.seq (.reg (.o (.iadr 1 t10 t3) (.o Q10 (.op Q11 p11 .nil)))) (.seq (.reg (.o (.slow ((Go.Oper.op (Go.Oper.mk (some 32) (Go.Op.lookup 174 (Go.Operand.tmp 30) (Go.Operand.tmp 31) Bool.true) 181 "cascade.go:167" (List.toArray (List.cons (Go.Edge.mk 0 Go.Ground.data) (List.cons (Go.Edge.mk 1 Go.Ground.data) List.nil))) none))) [(30, t12), (31, t11)]) (.o Q42 (.o Q43 (.op (.alloc Q157 180) p5 (.o (.sto 18 s0 s2) (.op Q81 p13 .nil))))))) (.seq (.reg (.op (.mv t13) p14 .nil)) (.cond t14 (.seq (.reg (.o Q21 (.o Q80 (.o (.ldN 11 s0) (.o Q51 (.o Q21 (.o Q80 (.o (.sto 11 s0 s2) .nil)))))))) (.reg (.o Q21 (.o (.ldN 13 s0) (.o (.bsl 22 Q20 1 13 [0] [s0]) (.o (.app 32 13 208 t7 s0) Q15)))))) .skip))))) Q100)))))) (.seq (.reg (.op Q85 p7 .nil)) .ret)))))
theorem dec60 : dF [25, 13, 8, 0, 1, 2, 3, 24, 26, 23, 9, 12, 14, 35] 4 60 = some ff60 := by kernel_rfl
def ff61:FFn:=(.mk [d5, d2] [(.t t6)] (.seq Q158 (.seq (.seq Q159 (.block 0 (.loop (.seq Q160 (.seq Q161 (.seq (.block 1 (.seq Q162 (.seq (.reg (.o (.iadr 1 t5 t7) (.o Q10 (.op (.bin .eql .eql 9 false t2 s0) p4 .nil)))) Q163))) Q100)))))) Q165)))
theorem dec61 : dF [8, 0, 5, 7, 9, 1, 16, 4] 2 61 = some ff61 := by kernel_rfl
def ff63:FFn:=(.mk [d7] [(.t t1)] (.seq Q167 (.seq (.seq (.reg (.o (.conv .u32 t7) (.op (.bin .leq .leq 185 true s0 (.c (.int .u32 (.ofNat 255)))) p9 .nil))) (.cond t9 (.seq (.seq (.reg (.op Q85 p3 .nil)) (.block 0 (.seq (.seq (.reg (.o (.bin .eql .eql 21 true t3 Q168) Q50)) (.cond t5 .skip (.seq (.reg (.o Q169 Q50)) (.cond t5 .skip (.seq (.reg (.o (.bin .eql .eql 21 true t3 (.c (.int .i32 (.ofNat 11)))) Q50)) (.cond t5 .skip (.seq (.reg (.o (.bin .eql .eql 21 true t3 Q141) Q50)) (.cond t5 .skip (.seq (.reg (.o Q140 Q50)) (.cond t5 .skip (.seq (.reg (.o (.bin .eql .eql 21 true t3 Q170) Q50)) (.cond t5 .skip (.seq (.reg (.o (.bin .eql .eql 21 true t3 (.c (.int .i32 (.ofNat 133)))) Q50)) (.cond t5 .skip (.reg (.o (.bin .eql .eql 21 true t3 (.c (.int .i32 (.ofNat 160)))) Q50)))))))))))))))) (.cond t5 (.seq (.reg (.op (.mv b1) p1 .nil)) .ret) .skip)))) (.seq Q167 .ret)) .skip)) (.seq (.reg (.o (.ld1 (.c (.gp 1 0))) (.o (.call 79 [s0, t7]) Q12))) .ret))))
theorem dec63 : dF [6, 7, 0, 5, 2] 1 63 = some ff63 := by kernel_rfl
def ff64:FFn:=(.mk [d3, d5] [(.t t7)] (.seq Q171 (.seq (.reg (.o (.call 80 [t3]) .nil)) (.seq (.reg (.chk t3 (.o Q83 (.o (.bsl 87 [(.int .u8 (.ofNat 0))] 1 1 [0] [t5]) (.o (.app 5 1 1 s1 s0) Q125))))) (.seq Q171 .ret)))))
theorem dec64 : dF [0, 1, 4] 2 64 = some ff64 := by kernel_rfl
def ff65:FFn:=(.mk [d3] [(.t t5)] (.seq Q172 (.seq (.reg (.chk t3 (.o Q83 (.o (.slow (Go.Op.call (Go.Call.mk (Go.Callee.builtin Go.Builtin.unsafeSliceData) (List.toArray (List.cons (Go.Operand.tmp 6) List.nil)) (List.toArray (List.cons 87 List.nil)))) [(6, s0)]) (.chk t3 (.o Q83 (.o Q6 (.o (.slow (Go.Op.call (Go.Call.mk (Go.Callee.builtin Go.Builtin.unsafeString) (List.toArray (List.cons (Go.Operand.tmp 7) (List.cons (Go.Operand.tmp 12) List.nil))) (List.toArray (List.cons 188 (List.cons 3 List.nil))))) [(7, s2), (12, s0)]) Q50)))))))) .ret)))
theorem dec65 : dF [0, 2] 1 65 = some ff65 := by kernel_rfl
def ff66:FFn:=(.mk [d5, d2] [(.t t6)] (.seq Q158 (.seq (.seq Q159 (.block 0 (.loop (.seq Q160 (.seq Q161 (.seq (.block 1 (.seq Q162 (.seq (.reg (.o (.iadr 2 t5 t7) (.o (.ldN 2 s0) (.op (.slow (Go.Op.call (Go.Call.mk (Go.Callee.value (Go.Operand.tmp 11)) (List.toArray (List.cons (Go.Operand.tmp 15) List.nil)) (List.toArray (List.cons 97 List.nil)))) [(11, t2), (15, s0)]) p4 .nil)))) Q163))) Q100)))))) Q165)))
theorem dec66 : dF [8, 0, 5, 7, 9, 1, 16, 4] 2 66 = some ff66 := by kernel_rfl
def ff67:FFn:=(.mk [d7, d6] [(.t t5), (.t t13)] (.seq (.reg (.op Q40 p5 Q173)) (.seq (.seq (.reg (.op (.call 81 [t7]) p2 (.op Q6 p9 Q93))) (.block 0 (.loop (.seq Q160 (.seq Q161 (.seq (.block 1 (.seq (.reg (.o (.iadr 1 t2 t3) (.o Q10 Q27))) (.seq (.reg (.o (.call 82 [t4, t6]) (.o Q42 (.o Q43 (.op Q174 p12 (.o (.sto 3 s0 s2) (.op Q81 p8 .nil))))))) (.seq (.seq Q82 (.cond t10 Q175 .skip)) (.reg (.o (.ldN 3 t12) (.o (.bsl 104 [.nils, .nils, Q19] 1 3 [0] [s0]) (.o (.app 113 3 56 t5 s0) Q50)))))))) Q100)))))) (.seq (.seq (.reg (.o (.lenL t5) (.op Q176 p11 .nil))) (.cond t11 Q175 .skip)) (.seq (.reg (.op Q45 p5 Q173)) .ret)))))
theorem dec67 : dF [13, 4, 0, 12, 14, 11, 7, 1, 9, 24, 8, 32, 5] 2 67 = some ff67 := by kernel_rfl
def ff69:FFn:=(.mk [d3] [(.t t5)] (.seq (.reg (.op Q40 p5 .nil)) (.seq (.reg (.o (.call 85 [t3]) (.o (.call 84 [s0, (.c (.fn 86 [] []))]) Q50))) .ret)))
theorem dec69 : dF [0, 2] 1 69 = some ff69 := by kernel_rfl
def ff70:FFn:=(.mk [d3] [(.t t9)] (.seq (.reg Q177) (.seq (.seq (.reg (.o Q150 (.op Q178 p5 .nil))) (.cond t5 (.seq (.reg Q177) .ret) .skip)) (.seq (.reg (.o (.iadr 7 t3 n0) (.o Q179 (.o (.call 87 [s0]) (.o Q42 (.o Q43 (.op Q44 p7 .nil))))))) (.seq (.reg (.op Q85 p9 .nil)) .ret)))))
theorem dec70 : dF [0, 7, 3, 2] 1 70 = some ff70 := by kernel_rfl
def ff72:FFn:=(.mk [d5, d3, d2] [(.c t9 131), (.t t13)] (.seq (.reg (.op Q117 p9 Q173)) (.seq (.reg (.o Q180 (.o Q181 (.o (.bld Q116 [(0, 6), (6, 1)] [0] [s0]) (.op Q117 p7 Q182))))) (.seq (.reg (.o Q180 (.o Q181 (.o (.call 92 [s0]) Q12)))) (.seq Q100 (.seq (.seq (.reg (.op (.bin .eql .eql 9 true t1 q0) p4 .nil)) (.cond t4 Q184 .skip)) (.seq (.block 0 (.loop (.seq (.seq (.reg (.o (.lenL t5) (.op Q95 p6 .nil))) (.cond t6 .skip Q9)) (.block 1 (.seq (.seq (.reg (.o Q180 (.o Q69 (.o Q10 (.o Q185 (.g Q28 Q45 none (.g Q29 Q37 none (.g Q30 (.iadr 6 s1 s0) none (.g Q70 Q75 none (.g Q71 Q10 none (.g Q72 (.mv t1) none (.g Q73 Q186 none (.op Q187 p8 .nil))))))))))))) (.cond t8 (.seq (.reg (.o Q183 (.o Q99 (.o (.sto 7 t9 s1) (.op Q44 p13 .nil))))) .ret) .skip)) (.seq (.reg (.o Q188 (.o (.call 72 [t5, t3, s0]) (.o Q42 (.o Q43 (.op Q117 p12 (.o (.sto 7 s0 s2) (.op Q81 p11 .nil)))))))) (.seq (.seq (.reg (.op (.bin .lss .lss 3 true t2 n32) p10 .nil)) (.cond t10 (.reg (.o (.faddr 6 t7) (.o Q10 (.o (.ldN 7 t12) (.o Q118 (.o (.app 131 7 64 s2 s0) (.o (.faddr 6 t7) Q52))))))) .skip)) (.reg (.op (.mv t11) p3 .nil))))))))) Q184)))))))
theorem dec72 : dF [1, 0, 8, 6, 9, 2, 25, 31, 46, 59, 10, 11, 7] 3 72 = some ff72 := by kernel_rfl
def ff73:FFn:=(.mk [d3, d5] [(.t t9)] (.seq (.reg (.op (.mv (.c Q126)) p9 .nil)) (.seq (.seq (.reg (.chk t3 (.o Q83 (.o Q189 (.chk t3 (.o Q132 (.o Q6 (.op (.bin .geq .geq 3 false s2 s0) p7 .nil)))))))) (.cond t7 (.seq (.reg (.op (.mv (.c (.int .i32 (.negSucc 0)))) p9 .nil)) .ret) .skip)) (.seq (.reg (.chk t3 (.o Q132 (.chk t3 (.o Q83 (.o Q189 (.o (.iadr 1 s2 s0) (.o Q10 Q33)))))))) .ret))))
theorem dec73 : dF [0, 1, 16, 4] 2 73 = some ff73 := by kernel_rfl
def ff74:FFn:=(.mk [d3] [(.c t7 129)] (.seq Q191 (.seq (.reg (.o Q120 Q50)) (.seq (.reg (.o (.bsl 126 [Q126, Q126, Q126, Q126, Q126, Q126, Q126, Q126, Q126] 9 1 [0, 1, 2, 3, 4, 5, 6, 7, 8] [Q192, (.c (.int .i32 (.ofNat 91))), (.c (.int .i32 (.ofNat 123))), (.c (.int .i32 (.ofNat 41))), (.c (.int .i32 (.ofNat 93))), (.c (.int .i32 (.ofNat 125))), (.c (.int .i32 (.ofNat 44))), (.c (.int .i32 (.ofNat 58))), (.c (.int .i32 (.ofNat 59)))]) Q12)) (.seq (.reg (.o (.bsl 73 [Q19, Q19, Q19, Q19, Q19, Q19, Q19, Q19, Q19] 9 1 [0, 1, 2, 3, 4, 5, 6, 7, 8] [n19, n19, n19, n20, n20, n20, n18, n16, n17]) Q56)) (.seq (.seq (.reg Q17) (.block 0 (.loop (.seq (.seq (.reg (.o (.lenL t1) (.op (.bin .lss .lss 3 false t9 s0) p4 .nil))) Q136) (.seq (.block 1 (.seq (.reg (.o (.iadr 1 t1 t9) (.o Q10 (.op (.bin .eql .eql 21 false s0 t5) p6 .nil)))) (.cond t6 (.seq Q131 (.seq (.reg (.o (.iadr 1 t8 t9) (.o Q10 (.o (.bld Q133 [(0, 1), (1, 1), (2, 1), (3, 1), (4, 1), (5, 1)] [0] [s0]) (.op Q190 p2 Q193))))) (.seq (.seq (.reg (.op (.bin .lss .lss 3 true t9 n6) p10 .nil)) (.cond t10 (.reg (.o (.call 93 [t5]) (.o (.faddr 1 t2) Q52))) .skip)) (.seq (.reg (.o (.ldN 6 t2) Q194)) .ret)))) .skip))) Q34))))) (.seq (.block 2 (.seq (.reg (.o (.call 94 [t5]) Q59)) (.cond t12 (.seq (.block 3 (.loop (.seq (.seq (.reg (.o Q120 (.op (.call 94 [s0]) p11 .nil))) (.cond t11 .skip (.exit 3))) (.block 4 Q131)))) (.seq (.reg (.o (.bld Q133 [(0, 1), (1, 1), (2, 1), (3, 1), (4, 1), (5, 1)] [0] [n13]) Q194)) .ret)) (.seq (.reg (.o (.bin .eql .eql 21 true t5 Q195) (.g Q127 Q45 none (.g Q128 Q196 none (.o Q197 Q62))))) (.cond t13 (.seq Q131 (.seq (.reg (.o (.call 95 [t3, t5]) Q194)) .ret)) (.seq (.reg (.o (.bin .eql .eql 21 true t5 (.c (.int .i32 (.ofNat 35)))) (.g Q28 Q37 none (.g Q29 Q122 none (.g Q30 (.call 96 [s0]) none (.g Q70 Q11 none (.g Q127 Q37 none (.g Q128 (.call 97 [s0, n1]) none (.g Q73 Q197 none (.o Q187 (.op Q11 p14 .nil))))))))))) (.cond t14 (.seq Q131 (.seq (.reg (.o (.call 98 [t3, n0]) (.op Q11 p0 .nil))) (.seq (.reg (.o Q198 (.o (.bld Q133 [(0, 1), (1, 1), (2, 1), (3, 1), (4, 1), (5, 1)] [0, 5, 1] [n4, t0, s0]) Q194))) .ret))) (.seq (.reg (.o (.bin .eql .eql 21 true t5 (.c (.int .i32 (.ofNat 43)))) (.g Q127 Q45 none (.g Q128 Q200 none (.o Q197 (.g Q127 Q45 none (.g Q128 (.bin .eql .eql 21 true s0 (.c (.int .i32 (.ofNat 46)))) none (.o Q197 (.g Q127 Q45 none (.g Q128 (.call 100 [s0]) none (.o Q197 (.g Q28 Q37 none (.g Q29 (.call 101 [s0]) none (.o Q108 (.op Q11 p18 .nil))))))))))))))) (.cond t18 (.seq (.reg (.o (.call 102 [t3]) Q194)) .ret) (.seq (.reg (.o (.bin .eql .eql 21 true t5 Q199) (.g Q28 Q37 none (.g Q29 Q122 none (.g Q30 Q200 none (.o Q31 (.g Q28 Q37 none (.g Q29 (.call 73 [s0, n2]) none (.g Q30 (.bin .eql .eql 21 true s0 (.c (.int .i32 (.ofNat 62)))) none (.o Q31 (.op Q11 p15 .nil))))))))))) (.cond t15 (.seq (.reg (.chk t3 (.o Q83 (.o (.bin .add .add 3 true s0 n3) Q125)))) (.seq (.reg (.o (.bld Q133 [(0, 1), (1, 1), (2, 1), (3, 1), (4, 1), (5, 1)] [0] [n15]) Q194)) .ret)) (.seq (.reg (.o (.bin .eql .eql 21 true t5 (.c (.int .i32 (.ofNat 60)))) (.g Q28 Q37 none (.g Q29 Q122 none (.g Q30 (.bin .eql .eql 21 true s0 (.c (.int .i32 (.ofNat 33)))) none (.o Q31 (.g Q28 Q37 none (.g Q29 (.call 73 [s0, n2]) none (.g Q30 Q200 none (.o Q31 (.g Q28 Q37 none (.g Q29 (.call 73 [s0, n3]) none (.g Q30 Q200 none (.o Q31 (.op Q11 p19 .nil))))))))))))))) (.cond t19 (.seq (.reg (.chk t3 (.o Q83 (.o (.bin .add .add 3 true s0 n4) Q125)))) (.seq (.reg (.o (.bld Q133 [(0, 1), (1, 1), (2, 1), (3, 1), (4, 1), (5, 1)] [0] [n14]) Q194)) .ret)) (.seq (.reg (.o (.bin .eql .eql 21 true t5 (.c (.int .i32 (.ofNat 64)))) (.g Q28 Q37 none (.g Q29 (.call 98 [s0, n1]) none (.o Q108 Q25))))) (.cond t20 (.seq Q131 (.seq (.reg (.o Q198 (.o (.bld Q133 [(0, 1), (1, 1), (2, 1), (3, 1), (4, 1), (5, 1)] [0, 1] [n3, s0]) Q194))) .ret)) (.seq (.reg (.o (.call 98 [t3, n0]) (.op Q11 p17 .nil))) (.cond t17 (.seq (.reg (.o (.call 103 [t3]) Q194)) .ret) .skip))))))))))))))))) (.seq (.reg (.o (.call 104 [t3]) Q194)) .ret))))))))
theorem dec74 : dF [0, 3, 2, 6, 4, 7, 16, 24, 5, 38, 43, 48, 57, 74, 8, 99, 120, 142, 169, 186] 1 74 = some ff74 := by kernel_rfl
def ff76:FFn:=(.mk [d7] [(.t t2)] (.seq (.reg (.op Q47 p2 .nil)) (.seq (.seq (.reg Q103) (.block 0 (.loop (.seq (.seq (.reg (.o (.lenL t7) (.op (.bin .lss .lss 3 false t5 s0) p9 .nil))) Q114) (.seq (.block 1 (.seq (.reg (.o (.iadr 7 t7 t5) (.o Q69 (.o Q181 (.op Q190 p3 Q193))))) (.seq (.reg (.o Q61 (.o Q10 (.o (.bin .eql .eql 3 true s0 n6) (.g Q127 Q61 none (.g Q128 Q10 none (.g Q129 (.bin .eql .eql 3 true s0 n8) none (.o Q130 (.g Q127 Q61 none (.g Q128 Q10 none (.g Q129 Q185 none (.o Q130 (.g Q127 Q61 none (.g Q128 Q10 none (.g Q129 (.bin .eql .eql 3 true s0 n9) none (.g Q201 Q11 none (.g Q28 Q63 none (.g Q29 Q10 none (.g Q30 (.bin .eql .eql 9 true s0 (.c (.str [33]))) none (.g Q202 Q31 none (.op Q203 p1 .nil))))))))))))))))))))) (.cond t1 (.seq (.reg (.op Q47 p2 .nil)) .ret) .skip)))) Q111))))) (.seq (.reg (.o (.lenL t7) (.o Q49 Q146))) .ret))))
theorem dec76 : dF [4, 3, 0, 8, 38, 2] 1 76 = some ff76 := by kernel_rfl
def ff77:FFn:=(.mk [d3] [(.t t7)] (.seq Q88 (.seq (.seq (.reg (.op (.bin .eql .eql 47 true t3 Q35) p5 .nil)) (.cond t5 (.seq Q88 .ret) .skip)) (.seq Q204 .ret))))
theorem dec77 : dF [0, 4, 2] 1 77 = some ff77 := by kernel_rfl
def ff78:FFn:=(.mk [d5, d10, d0, d18] [(.t t7), (.t t4)] (.seq (.reg (.op (.mv (.c .nilmap)) p7 Q205)) (.seq (.reg (.o (.slow ((Go.Oper.op (Go.Oper.mk (some 19) (Go.Op.makeMap 174 none) 174 "cascade.go:141" List.nil.toArray none))) []) Q15)) (.seq (.seq (.reg (.op (.bin .eql .eql 57 true t5 Q35) p8 .nil)) (.cond t8 (.seq (.reg (.op Q85 p7 Q205)) .ret) .skip)) (.seq (.reg (.o (.call 105 [t5, t10]) .nil)) (.seq (.seq (.reg (.chk t5 (.op Q206 p13 (.op Q6 p12 Q17)))) (.block 0 (.loop (.seq (.reg (.op (.bin .lss .lss 3 false t9 t12) p11 .nil)) (.seq (.cond t11 .skip Q9) (.seq (.block 1 (.seq (.reg (.o (.iadr 5 t13 t9) (.o (.ldN 5 s0) (.op Q207 p1 (.op (.mv t9) p14 (.o (.sto 5 s1 s2) .nil)))))) (.seq (.reg (.o (.call 106 [t5, t14, t0, t18]) (.o Q42 (.o Q43 (.op Q208 p23 (.o (.sto 3 s0 s2) (.op Q81 p15 .nil))))))) (.seq (.seq (.reg (.op (.nt t15) p19 .nil)) (.cond t19 Q137 .skip)) (.seq (.reg (.g Q209 (.faddr 4 t1) none (.g Q209 Q10 none (.g Q209 Q6 none (.g Q209 Q49 none (.o (.pick t4 b1 s0) Q27)))))) (.seq (.reg (.o (.faddr 4 t1) (.op Q10 p16 (.op Q6 p20 (.op Q7 p2 .nil))))) (.block 2 (.loop (.seq (.reg (.op (.bin .lss .lss 3 false t2 t20) p17 .nil)) (.seq (.cond t17 .skip Q18) (.seq (.block 3 (.seq (.reg (.o (.iadr 16 t16 t2) (.o (.ldN 16 s0) (.op (.alloc [Q0, Q19, Q0, Q0, Q0, .nils, Q1, Q1, .nils, Q1, .nils, .nils, .nils, Q1, Q1, Q19] 122) p3 (.o (.sto 16 s0 s1) .nil))))) (.seq (.regL (.o (.faddr 0 t1) (.o Q10 (.o (.faddr 14 t3) (.o Q10 (.o (.call 107 [s2, s0]) (.o (.ldN 3 t23) (.o (.faddr 15 t3) (.o Q10 (.o (.bld [Q19, Q19, Q19, Q19, Q19] [(0, 1), (1, 3), (4, 1)] [0, 1, 2] [s3, s2, s0]) (.op (.alloc [Q19, Q19, Q19, Q19, Q19] 178) p6 (.o (.sto 5 s0 s1) .nil))))))))))) [(1, 9), (3, 9), (5, 9), (7, 9)] []) (.seq (.reg (.o Q61 (.o Q69 (.o Q10 (.o (.slow ((Go.Oper.op (Go.Oper.mk (some 74) (Go.Op.lookup 174 (Go.Operand.tmp 70) (Go.Operand.tmp 73) Bool.true) 181 "cascade.go:154" (List.toArray (List.cons (Go.Edge.mk 0 Go.Ground.data) (List.cons (Go.Edge.mk 3 Go.Ground.data) List.nil))) none))) [(70, t7), (73, s0)]) (.o Q42 (.o Q43 (.op (.alloc Q157 180) p22 (.o (.sto 18 s0 s2) (.op Q81 p24 .nil)))))))))) (.seq (.reg (.o (.faddr 13 t3) (.o Q10 (.g Q28 (.mv t24) none (.g Q29 Q22 none (.g Q30 Q11 none (.g Q127 (.faddr 13 t22) none (.g Q128 (.ldN 5 s0) none (.g Q129 (.ldN 5 t6) none (.g Q201 (.call 108 [s1, s0]) none (.g Q74 Q210 none (.op (.pick s8 s0 b0) p25 .nil)))))))))))) (.cond t25 (.reg (.o Q61 (.o Q69 (.o Q10 (.o Q61 (.o (.ldN 13 s0) (.o (.ldN 5 t6) (.o (.bld Q157 [(0, 13), (13, 5)] [0, 1] [s1, s0]) (.o (.slow ((Go.Oper.op (Go.Oper.mk none (Go.Op.mapUpdate 174 (Go.Operand.tmp 89) (Go.Operand.tmp 92) (Go.Operand.tmp 96)) 0 "cascade.go:156" (List.toArray (List.cons (Go.Edge.mk 0 Go.Ground.data) (List.cons (Go.Edge.mk 3 Go.Ground.data) (List.cons (Go.Edge.mk 7 Go.Ground.data) (List.cons (Go.Edge.mk 0 Go.Ground.phase) (List.cons (Go.Edge.mk 1 Go.Ground.phase) (List.cons (Go.Edge.mk 2 Go.Ground.phase) (List.cons (Go.Edge.mk 3 Go.Ground.phase) (List.cons (Go.Edge.mk 4 Go.Ground.phase) (List.cons (Go.Edge.mk 5 Go.Ground.phase) (List.cons (Go.Edge.mk 6 Go.Ground.phase) (List.cons (Go.Edge.mk 7 Go.Ground.phase) List.nil)))))))))))) none))) [(89, t7), (92, s4), (96, s0)]) .nil))))))))) .skip)))))) (.reg (.o Q188 Q146))))))))))))) Q34)))))) (.seq (.reg (.op Q85 p7 (.op (.mv t4) p4 .nil))) .ret)))))))
theorem dec78 : dF [15, 0, 8, 31, 11, 56, 9, 16, 21, 1, 30, 32, 29, 10, 2, 3, 13, 45, 55, 57, 54, 12, 18, 17, 88] 4 78 = some ff78 := by kernel_rfl
def ff80:FFn:=(.mk [d3] [] (.seq (.reg (.chk t3 (.o Q132 (.op (.bin .eql .eql 145 true s0 Q35) p5 .nil)))) (.cond t5 (.reg (.o (.slow (Go.Op.convert 145 220 (Go.Operand.tmp 8)) [(8, t3)]) (.o (.call 111 [s0]) (.o (.slow (Go.Op.convert 220 145 (Go.Operand.tmp 10)) [(10, s0)]) (.chk t3 (.o (.sto 1 (.f 0 t3) s0) .nil)))))) (.seq (.reg (.chk t3 (.o Q132 (.op (.bin .neq .neq 145 false s0 t3) p7 .nil)))) (.cond t7 .bad .skip)))))
theorem dec80 : dF [0, 6, 19] 1 80 = some ff80 := by kernel_rfl
def ff81:FFn:=(.mk [d9] [(.t t13)] (.seq (.reg (.op Q40 p13 .nil)) (.seq (.reg (.o Q211 Q36)) (.seq (.seq (.reg (.op (.call 85 [t9]) p4 (.op Q6 p1 Q103))) (.block 0 (.loop (.seq Q104 (.seq Q105 (.seq (.block 1 (.seq (.reg (.o (.iadr 7 t4 t5) (.o Q179 (.op Q117 p7 Q182)))) (.seq (.seq (.reg (.o Q112 (.o Q69 (.o Q10 (.op (.bin .eql .eql 3 true s0 n18) p6 .nil))))) (.cond t6 (.seq (.reg (.o Q211 (.o (.app 100 1 24 t3 s0) Q36))) Q137) .skip)) (.seq (.forkB 4 none d8) (.cond t8 (.seq (.regL (.o Q37 (.o Q37 (.o Q6 (.o Q154 (.o Q37 (.o Q37 (.o Q6 (.o Q154 (.o (.iadr 1 s3 s0) (.o Q10 (.op Q183 p11 (.op (.lenL s1) p12 (.o (.bsl 100 Q116 1 7 [0] [(.c (.agg Q116))]) (.op (.app 131 7 64 s3 s0) p10 (.o (.iadr 1 s13 s10) Q52))))))))))))))) [(9, 12), (10, 12)] []) (.reg (.o (.iadr 7 t10 t12) (.o (.sto 7 s0 t11) .nil)))) (.regL (.o Q37 (.o Q37 (.o Q6 (.o Q154 (.o Q37 (.o Q37 (.o Q6 (.o Q154 (.o (.iadr 1 s3 s0) (.o Q10 (.o Q183 (.o Q118 (.o (.app 131 7 64 s2 s0) (.o (.iadr 1 s12 s9) Q52)))))))))))))) [(9, 11)] [])))))) Q111)))))) (.seq (.reg (.op Q37 p13 .nil)) .ret)))))
theorem dec81 : dF [3, 10, 5, 0, 9, 11, 8, 17, 22, 36, 34, 33, 2] 1 81 = some ff81 := by kernel_rfl
def ff84:FFn:=(.mk [d3, d9] [(.t t8)] (.seq (.reg (.op Q40 p8 .nil)) (.seq (.reg (.o (.call 115 [t3, t9]) Q50)) (.seq (.seq (.reg (.op (.bin .eql .eql 3 true t5 Q164) p2 .nil)) (.cond t2 (.seq (.reg (.op Q37 p8 .nil)) .ret) .skip)) (.seq (.seq (.reg (.o Q110 Q15)) (.block 0 (.loop (.seq (.seq (.reg (.o Q150 (.op Q90 p4 .nil))) Q136) (.seq (.block 1 (.seq (.reg (.o Q212 (.o Q179 (.op Q117 p1 Q182)))) (.seq (.reg (.o (.ldN 7 t1) (.o (.slow (Go.Op.call (Go.Call.mk (Go.Callee.value (Go.Operand.tmp 26)) (List.toArray (List.cons (Go.Operand.tmp 27) List.nil)) (List.toArray (List.cons 131 List.nil)))) [(26, t9), (27, s0)]) (.op Q22 p6 .nil)))) (.cond t6 (.seq (.reg (.o (.ldN 7 t1) (.o (.iadr 7 t3 t5) Q182))) Q111) .skip)))) Q16))))) (.seq (.reg (.o (.slow (Go.Op.slice 100 (Go.Operand.tmp 36) (some (Go.Operand.tmp 37)) none none) [(36, t3), (37, t5)]) (.o (.slow (Go.Op.call (Go.Call.mk (Go.Callee.builtin Go.Builtin.clear) (List.toArray (List.cons (Go.Operand.tmp 38) List.nil)) (List.toArray (List.cons 100 List.nil)))) [(38, s0)]) .nil))) (.seq (.reg (.o (.slow (Go.Op.slice 100 (Go.Operand.tmp 39) none (some (Go.Operand.tmp 40)) none) [(39, t3), (40, t5)]) Q56)) .ret)))))))
theorem dec84 : dF [0, 5, 6, 1, 7, 12, 19, 29, 4] 2 84 = some ff84 := by kernel_rfl
def ff85:FFn:=(.mk [d9] [(.t t4)] (.seq Q113 (.seq (.reg (.o (.call 119 [t9]) Q36)) (.seq (.seq (.reg (.op Q150 p1 Q103)) (.block 0 (.loop (.seq Q104 (.seq Q105 (.seq (.block 1 (.seq Q46 (.reg (.o Q212 (.o (.faddr 6 s0) (.o Q10 (.o (.call 85 [s0]) (.o Q212 (.o (.faddr 6 s0) (.o (.sto 1 s0 s2) .nil)))))))))) Q111)))))) (.seq (.reg (.op Q37 p4 .nil)) .ret)))))
theorem dec85 : dF [3, 9, 4, 0, 8, 10, 2] 1 85 = some ff85 := by kernel_rfl
def ff86:FFn:=(.mk [d3] [(.t t7)] (.seq Q213 (.seq (.reg (.o Q21 (.o Q69 (.o Q10 (.o Q152 Q15))))) .ret)))
theorem dec86 : dF [0, 1, 2] 1 86 = some ff86 := by kernel_rfl
def ff87:FFn:=(.mk [d5] [(.t t9), (.t t1)] (.seq (.reg (.op (.box 131 t5) p3 (.op Q102 p9 Q166))) (.seq (.seq (.reg (.o Q61 (.o Q69 (.o Q10 (.op Q178 p7 .nil))))) (.cond t7 (.seq (.reg (.op Q102 p9 Q166)) .ret) .skip)) (.seq (.reg (.o Q61 (.o Q75 (.o Q10 (.o Q214 (.op Q11 p9 (.op (.mv b1) p1 .nil))))))) .ret))))
theorem dec87 : dF [1, 0, 7, 2, 3] 1 87 = some ff87 := by kernel_rfl
def ff92:FFn:=(.mk [d5] [(.t t2)] (.seq (.reg (.op (.box 129 t5) p3 (.op Q102 p2 .nil))) (.seq (.block 0 (.seq (.reg (.o Q61 (.o Q10 (.o (.bin .eql .eql 3 true s0 n2) (.g Q127 Q61 none (.g Q128 Q10 none (.g Q129 Q147 none (.g Q201 Q11 none (.g Q28 Q63 none (.g Q29 Q10 none (.g Q30 (.bin .eql .eql 9 true s0 (.c (.str [40]))) none (.g Q202 Q31 none (.o Q203 Q15))))))))))))) (.cond t7 (.seq (.reg (.op (.mv (.c (.str [41]))) p2 .nil)) .ret) (.seq (.reg (.o Q61 (.o Q10 (.o Q147 (.g Q28 Q63 none (.g Q29 Q10 none (.g Q30 (.bin .eql .eql 9 true s0 (.c (.str [91]))) none (.o Q31 Q33)))))))) (.cond t9 (.seq (.reg (.op (.mv (.c (.str [93]))) p2 .nil)) .ret) (.seq (.reg (.o Q61 (.o Q10 (.o Q147 (.g Q28 Q63 none (.g Q29 Q10 none (.g Q30 Q148 none (.o Q31 Q12)))))))) (.cond t1 (.seq (.reg (.op (.mv (.c (.str [125]))) p2 .nil)) .ret) .skip))))))) (.seq Q143 .ret))))
theorem dec92 : dF [1, 0, 3, 17, 26, 2] 1 92 = some ff92 := by kernel_rfl
def ff93:FFn:=(.mk [d3] [(.t t5)] (.seq Q172 (.seq (.reg (.o Q142 (.o (.slow (Go.Op.convert 126 9 (Go.Operand.tmp 4)) [(4, s0)]) Q50))) .ret)))
theorem dec93 : dF [0, 2] 1 93 = some ff93 := by kernel_rfl
def ff94:FFn:=(.mk [d3] [(.t t5)] (.seq Q48 (.seq (.reg (.o Q169 (.g Q127 Q37 none (.g Q128 (.bin .eql .eql 21 true s0 Q168) none (.o Q197 (.g Q127 Q37 none (.g Q128 (.bin .eql .eql 21 true s0 Q170) none (.o Q197 Q50)))))))) .ret)))
theorem dec94 : dF [0, 2] 1 94 = some ff94 := by kernel_rfl
def ff96:FFn:=(.mk [d3] [(.t t5)] (.seq Q48 (.seq (.reg (.o (.call 124 [t3]) (.g Q127 Q37 none (.g Q128 (.call 100 [s0]) none (.o Q197 (.g Q127 Q37 none (.g Q128 Q200 none (.o Q197 Q50)))))))) .ret)))
theorem dec96 : dF [0, 2] 1 96 = some ff96 := by kernel_rfl
def ff98:FFn:=(.mk [d3, d5] [(.t t1)] (.seq Q167 (.seq (.reg (.o Q215 Q15)) (.seq (.seq (.reg (.op (.bin .eql .eql 21 true t7 Q199) p9 .nil)) (.cond t9 (.seq (.reg (.o Q110 (.o (.call 73 [t3, s0]) (.o (.call 124 [s0]) (.g Q127 Q37 none (.g Q128 Q45 none (.g Q129 Q101 none (.g Q201 (.call 73 [s2, s0]) none (.g Q216 Q200 none (.o (.pick s5 b1 s0) (.g Q127 Q37 none (.g Q128 Q45 none (.g Q129 Q101 none (.g Q201 (.call 97 [s2, s0]) none (.o Q210 Q12))))))))))))))) .ret) .skip)) (.seq (.reg (.o (.call 124 [t7]) (.g Q127 Q37 none (.g Q128 Q45 none (.g Q129 (.call 97 [s1, s0]) none (.o Q130 Q12)))))) .ret)))))
theorem dec98 : dF [0, 1, 5, 10, 4] 2 98 = some ff98 := by kernel_rfl
def ff99:FFn:=(.mk [d3] [(.t t1)] (.seq (.reg (.op Q102 p1 .nil)) (.seq Q172 (.block 0 (.loop (.block 1 (.block 2 (.seq (.reg (.o Q120 (.o (.call 96 [s0]) Q15))) (.cond t7 (.seq (.reg (.o Q120 Q217)) Q131) (.seq (.reg (.o (.call 97 [t3, n0]) Q33)) (.cond t9 (.seq Q131 (.reg (.o (.call 123 [t3]) Q217))) (.seq (.reg (.op Q45 p1 .nil)) .ret))))))))))))
theorem dec99 : dF [0, 3, 5, 21, 2] 1 99 = some ff99 := by kernel_rfl
def ff100:FFn:=(.mk [d3] [(.t t5)] (.seq Q48 (.seq (.reg (.o (.bin .geq .geq 21 true t3 (.c (.int .i32 (.ofNat 48)))) (.g Q28 Q37 none (.g Q29 (.bin .leq .leq 21 true s0 (.c (.int .i32 (.ofNat 57)))) none (.o Q108 Q50))))) .ret)))
theorem dec100 : dF [0, 2] 1 100 = some ff100 := by kernel_rfl
def ff103:FFn:=(.mk [d3] [(.c t9 129)] (.seq (.reg (.op Q190 p9 .nil)) (.seq (.reg (.o Q198 Q15)) (.seq (.seq (.reg (.o Q120 (.op (.bin .neq .neq 21 true s0 Q192) p1 .nil))) (.cond t1 (.seq (.reg (.o (.bld Q133 [(0, 1), (1, 1), (2, 1), (3, 1), (4, 1), (5, 1)] [0, 1] [n1, t7]) Q218)) .ret) .skip)) (.seq Q131 (.seq (.seq (.reg (.o (.call 51 [t7]) (.op (.bin .neq .neq 9 true s0 (.c (.str [117, 114, 108]))) p2 .nil))) (.cond t2 Q219 .skip)) (.seq (.reg Q103) (.seq (.block 0 (.loop (.seq (.seq (.reg (.o Q215 (.op (.call 94 [s0]) p4 .nil))) Q136) (.block 1 Q111)))) (.seq (.seq (.reg (.o Q215 (.o (.bin .eql .eql 21 true s0 Q195) (.g Q127 Q37 none (.g Q128 Q45 none (.g Q129 (.call 73 [s1, s0]) none (.g Q201 Q196 none (.op Q210 p6 .nil)))))))) (.cond t6 (.seq (.reg (.chk t3 (.o Q83 (.o (.bin .sub .sub 3 true t5 n1) (.o (.slow (Go.Op.call (Go.Call.mk (Go.Callee.builtin Go.Builtin.max) (List.toArray (List.cons (Go.Operand.tmp 46) (List.cons (Go.Operand.const (Go.Value.int Go.IntKind.i64 0)) List.nil))) (List.toArray (List.cons 3 (List.cons 3 List.nil))))) [(46, s0)]) (.o (.bin .add .add 3 false s2 s0) Q125)))))) Q219) .skip)) (.seq (.reg (.o (.call 127 [t3]) Q218)) .ret))))))))))
theorem dec103 : dF [0, 4, 3, 2, 9, 21, 27, 39] 1 103 = some ff103 := by kernel_rfl
def ff104:FFn:=(.mk [d3] [(.c t7 129)] (.seq Q191 (.seq (.reg (.o Q120 (.o (.call 93 [s0]) (.o (.bld Q133 [(0, 1), (1, 1), (2, 1), (3, 1), (4, 1), (5, 1)] [0, 1] [n9, s0]) (.op Q190 p5 Q193))))) (.seq Q131 (.seq (.reg (.o (.ldN 6 t5) Q194)) .ret)))))
theorem dec104 : dF [0, 3, 2] 1 104 = some ff104 := by kernel_rfl
def ff106:FFn:=(.mk [d9, d1, d4, d13] [(.c t7 115), (.t t6)] (.seq (.reg (.op Q208 p7 (.op Q47 p6 .nil))) (.seq (.reg (.chk t9 (.o (.ld1 (.f 0 t9)) (.o (.iadr 5 s0 t1) (.o (.ldN 5 s0) (.op Q207 p2 (.o (.sto 5 s0 s1) .nil))))))) (.seq (.seq (.reg (.o (.faddr 2 t2) (.op Q10 p12 (.op Q6 p8 Q93)))) (.block 0 (.loop (.seq (.reg (.op (.bin .lss .lss 3 false t3 t8) p10 .nil)) (.seq (.cond t10 .skip Q9) (.seq (.block 1 (.seq (.reg (.o (.iadr 3 t12 t3) (.o Q220 (.op Q174 p11 (.op Q37 p5 (.o (.sto 3 s1 s2) .nil)))))) (.seq (.seq (.reg (.o (.faddr 2 t11) (.o Q10 (.o (.bin .neq .neq 3 false s0 t13) (.g Q127 (.mv t4) none (.g Q128 Q221 none (.o Q197 (.g Q127 (.mv t4) none (.g Q128 (.mv t9) none (.g Q129 Q68 none (.g Q201 Q80 none (.g Q216 Q10 none (.g Q222 (.mv t1) none (.g Q223 Q145 none (.g Q202 Q10 none (.g Q224 Q45 none (.g Q225 Q145 none (.g Q226 Q10 none (.g Q227 Q6 none (.g (.on s12 false) (.bin .geq .geq 3 false s11 s0) none (.o (.pick s13 b1 s0) (.g Q127 (.mv t9) none (.g Q128 Q68 none (.g Q129 Q80 none (.g Q201 Q10 none (.g Q216 (.mv t1) none (.g Q222 Q145 none (.g Q223 Q10 none (.g Q202 Q45 none (.g Q224 Q145 none (.g Q225 Q10 none (.g Q226 (.mv t4) none (.g Q227 Q145 none (.g (.on s12 false) Q10 none (.g (.on s13 false) Q22 none (.op (.pick s14 b1 s0) p14 .nil)))))))))))))))))))))))))))))))))))) (.cond t14 Q137 .skip)) (.seq (.seq (.reg (.o (.nt t6) (.g Q127 (.faddr 3 t2) none (.g Q128 Q10 none (.g Q129 Q45 none (.g Q201 (.iadr 3 s1 s0) none (.g Q216 Q220 none (.g Q222 (.ldN 3 t7) none (.g Q223 (.call 118 [s1, s0]) none (.g Q202 Q49 none (.op Q203 p0 .nil))))))))))) (.cond t0 (.reg (.o (.faddr 3 t2) (.o Q10 (.o (.iadr 3 s0 t5) (.o Q220 (.o (.sto 3 t7 s0) .nil)))))) .skip)) (.reg (.op (.mv b1) p6 .nil)))))) Q100)))))) (.seq (.reg (.o (.ldN 3 t7) (.o (.sto 3 t7 s0) (.op (.mv t6) p6 .nil)))) .ret)))))
theorem dec106 : dF [23, 11, 8, 0, 1, 10, 2, 9, 22, 24, 21, 12, 3, 66, 78] 4 106 = some ff106 := by kernel_rfl
def ff107:FFn:=(.mk [d3, d5] [(.t t2)] (.seq Q92 (.seq (.block 0 (.seq (.reg (.g (.on t3 true) Q45 none (.o (.pick t3 s0 b0) Q15))) (.cond t7 (.seq (.reg (.op (.mv n3) p2 .nil)) .ret) (.seq (.reg (.op Q45 p9 .nil)) (.cond t9 (.seq (.reg (.op (.mv n2) p2 .nil)) .ret) (.seq (.reg (.op Q37 p1 .nil)) (.cond t1 (.seq Q92 .ret) .skip))))))) (.seq (.reg (.op (.mv n1) p2 .nil)) .ret))))
theorem dec107 : dF [0, 1, 5, 10, 12, 4] 2 107 = some ff107 := by kernel_rfl
def ff108:FFn:=(.mk [d7, d9] [(.t t1)] (.seq (.reg (.op (.box 178 t7) p3 (.op (.box 178 t9) p5 Q166))) (.seq (.reg (.o Q61 (.o Q10 (.o Q21 (.o Q10 (.o (.call 130 [s2, s0]) (.o Q63 (.o Q220 (.o Q23 (.o Q220 (.o (.call 118 [s2, s0]) (.o (.faddr 4 t3) (.o Q10 (.o (.faddr 4 t5) (.o Q10 (.o (.call 130 [s2, s0]) (.o (.bsl 73 [Q19, Q19, Q19] 3 1 [0, 1, 2] [s10, s5, s0]) (.o (.call 129 [s0]) (.o Q221 Q12))))))))))))))))))) .ret)))
theorem dec108 : dF [2, 3, 0, 1, 4] 2 108 = some ff108 := by kernel_rfl
def ff112:FFn:=(.mk [d3] [(.t t9)] (.seq Q134 (.seq (.block 0 (.loop (.seq (.seq (.reg (.o Q150 (.o Q49 (.g Q28 Q37 none (.g Q29 Q151 none (.g Q30 Q179 none (.g Q70 (.call 86 [s0]) none (.op Q149 p5 .nil)))))))) Q153) (.block 1 (.reg (.o (.slow (Go.Op.slice 100 (Go.Operand.tmp 12) (some (Go.Operand.const (Go.Value.int Go.IntKind.i64 1))) none none) [(12, t3)]) Q36)))))) (.seq (.block 2 (.loop (.seq (.seq (.reg (.o Q150 (.o Q49 (.g Q28 Q37 none (.g Q29 Q37 none (.g Q30 Q6 none (.g Q70 Q154 none (.g Q71 (.iadr 7 s3 s0) none (.g Q72 Q179 none (.g Q73 (.call 86 [s0]) none (.op Q187 p7 .nil))))))))))) (.cond t7 .skip Q18)) (.block 3 (.reg (.o Q150 (.o Q154 (.o (.slow (Go.Op.slice 100 (Go.Operand.tmp 26) none (some (Go.Operand.tmp 29)) none) [(26, t3), (29, s0)]) Q36)))))))) (.seq (.reg (.o (.call 85 [t3]) Q33)) .ret)))))
theorem dec112 : dF [0, 11, 25, 2] 1 112 = some ff112 := by kernel_rfl
def ff113:FFn:=(.mk [d5] [(.c t3 156), (.t t12)] (.seq (.reg (.op (.alloc [Q0, .nils] 156) p3 Q135)) (.seq (.reg (.o (.call 131 [t5]) (.o Q42 (.o Q43 (.op Q190 p7 (.o (.sto 6 s0 s2) (.op Q81 p1 .nil))))))) (.seq (.block 0 (.seq (.reg (.o Q112 (.o Q10 (.o Q26 Q33)))) (.cond t9 (.seq Q228 (.reg (.o Q61 (.o (.sto 1 s0 t1) .nil)))) (.seq (.reg (.o (.call 133 [t5, n9, (.c (.str [42]))]) Q146)) (.cond t2 (.seq Q228 (.reg (.o Q61 (.o (.sto 1 s0 (.c (.str [42]))) .nil)))) .skip))))) (.seq (.block 1 (.loop (.seq (.seq (.reg (.chk t5 (.o (.ld1 (.f 2 t5)) (.op Q22 p4 .nil)))) (.cond t4 .skip Q137)) (.block 2 (.seq (.reg (.o (.call 134 [t5]) (.o Q42 (.o Q43 (.op (.alloc Q229 158) p10 (.o (.sto 8 s0 s2) (.op Q81 p6 .nil))))))) (.seq (.seq (.reg (.op (.nt t6) p8 .nil)) (.cond t8 Q137 .skip)) (.reg (.o Q63 (.o Q10 (.o (.ldN 8 t10) (.o (.bsl 154 Q229 1 8 [0] [s0]) (.o (.app 158 8 104 s2 s0) (.o Q63 Q52))))))))))))) (.seq (.reg (.chk t5 (.o (.ld1 (.f 2 t5)) (.g Q127 Q63 none (.g Q128 Q10 none (.g Q129 Q6 none (.g Q201 Q176 none (.o Q210 (.chk t5 (.o (.sto 1 (.f 2 t5) s0) .nil)))))))))) (.seq (.reg (.o (.ldN 2 t3) (.o Q61 (.o Q10 (.o Q77 (.g Q127 Q63 none (.g Q128 Q10 none (.g Q129 Q6 none (.g Q201 Q49 none (.o Q210 (.o (.sto 2 t3 s8) Q156))))))))))) .ret)))))))
theorem dec113 : dF [2, 0, 4, 13, 5, 21, 31, 7, 38, 6, 3] 1 113 = some ff113 := by kernel_rfl
def ff114:FFn:=(.mk [d5] [(.t t4)] (.seq (.reg (.op Q7 p4 .nil)) (.seq Q94 (.seq (.block 0 (.loop (.seq (.seq (.reg (.chk t5 (.o Q206 (.o Q6 (.o Q95 (.g Q28 Q37 none (.g Q29 Q230 none (.o Q108 (.g Q28 Q45 none (.g Q29 Q68 none (.g Q30 Q69 none (.g Q70 Q10 none (.g Q71 Q37 none (.g Q72 (.iadr 7 s1 s0) none (.g Q73 Q69 none (.g Q74 Q69 none (.g Q76 Q10 none (.g (.on s9 true) Q231 none (.op (.pick s10 s0 b0) p9 .nil))))))))))))))))))) Q114) (.block 1 Q100)))) (.seq (.seq (.reg (.o (.bin .eql .eql 3 true t3 n0) (.g Q127 Q37 none (.g Q128 Q45 none (.g Q129 Q68 none (.g Q201 Q69 none (.g Q216 Q10 none (.g Q222 Q6 none (.g Q223 (.bin .geq .geq 3 false s5 s0) none (.o (.pick s7 b1 s0) (.g Q127 Q45 none (.g Q128 Q68 none (.g Q129 Q69 none (.g Q201 Q10 none (.g Q216 Q37 none (.g Q222 (.iadr 7 s1 s0) none (.g Q223 Q69 none (.g Q202 Q69 none (.g Q224 Q10 none (.g Q225 Q178 none (.op (.pick s10 b1 s0) p1 .nil))))))))))))))))))))) (.cond t1 Q232 .skip)) (.seq (.reg (.chk t5 (.o Q206 (.o (.iadr 7 s0 t3) (.o Q69 (.o Q75 (.o Q10 (.o Q214 (.o (.call 135 [(.c (.str [98, 101, 102, 111, 114, 101, 32, 97, 102, 116, 101, 114, 32, 109, 97, 114, 107, 101, 114, 32, 102, 105, 114, 115, 116, 45, 108, 101, 116, 116, 101, 114, 32, 102, 105, 114, 115, 116, 45, 108, 105, 110, 101])), s0]) Q15))))))))) (.seq (.seq (.reg (.o (.bin .eql .eql 3 true t7 n3) (.g Q28 Q37 none (.g Q29 Q230 none (.op Q108 p2 .nil))))) (.cond t2 Q232 .skip)) Q119)))))))
theorem dec114 : dF [3, 0, 4, 27, 52, 69, 2] 1 114 = some ff114 := by kernel_rfl
def ff115:FFn:=(.mk [d5, d2] [(.t t6)] (.seq Q158 (.seq (.seq Q159 (.block 0 (.loop (.seq Q160 (.seq Q161 (.seq (.block 1 (.seq Q162 (.seq (.reg (.o (.iadr 7 t5 t7) (.o Q179 (.op (.slow (Go.Op.call (Go.Call.mk (Go.Callee.value (Go.Operand.tmp 11)) (List.toArray (List.cons (Go.Operand.tmp 15) List.nil)) (List.toArray (List.cons 131 List.nil)))) [(11, t2), (15, s0)]) p4 .nil)))) Q163))) Q100)))))) Q165)))
theorem dec115 : dF [8, 0, 5, 7, 9, 1, 16, 4] 2 115 = some ff115 := by kernel_rfl
def ff116:FFn:=(.mk [d3] [(.t t7)] (.seq Q213 (.seq (.reg (.o Q21 (.o Q69 (.o Q10 (.o Q26 Q15))))) .ret)))
theorem dec116 : dF [0, 1, 2] 1 116 = some ff116 := by kernel_rfl
def ff117:FFn:=(.mk [d3] [(.t t8), (.t t10)] (.seq (.reg (.op Q102 p8 (.op Q47 p10 .nil))) (.seq (.reg (.o (.call 136 [t3]) Q53)) (.seq (.seq (.reg (.op (.bsl 24 [Q0, Q0, Q0] 3 1 [0, 1, 2] [(.c (.str [62])), (.c (.str [43])), (.c (.str [126]))]) p2 (.op Q6 p9 Q103))) (.block 0 (.loop (.seq (.reg (.op (.bin .lss .lss 3 false t5 t9) p1 .nil)) (.seq Q161 (.seq (.block 1 (.seq (.reg (.o (.iadr 1 t2 t5) (.o Q10 Q15))) (.seq (.reg (.op (.call 133 [t3, n9, t7]) p4 .nil)) (.cond t4 (.seq Q233 (.seq (.reg (.o (.call 136 [t3]) .nil)) (.seq (.reg (.op Q85 p8 (.op (.mv b1) p10 .nil))) .ret))) .skip)))) Q111)))))) (.seq (.reg (.op (.mv (.c (.str [32]))) p8 (.op (.mv t6) p10 .nil))) .ret)))))
theorem dec117 : dF [0, 11, 6, 10, 12, 9, 17, 4, 2, 3] 1 117 = some ff117 := by kernel_rfl
def ff119:FFn:=(.mk [d3] [(.t t7)] (.seq Q41 (.seq (.seq (.reg (.op (.bin .eql .eql 100 true t3 Q39) p5 .nil)) Q155) (.seq (.reg (.o (.bsl 100 [] 0 7 [] []) (.o (.app 131 7 64 s0 t3) Q15))) .ret))))
theorem dec119 : dF [0, 4, 2] 1 119 = some ff119 := by kernel_rfl
def ff124:FFn:=(.mk [d3] [(.t t5)] (.seq Q48 (.seq (.reg (.o (.bin .geq .geq 21 true t3 (.c (.int .i32 (.ofNat 97)))) (.g Q28 Q37 none (.g Q29 (.bin .leq .leq 21 true s0 (.c (.int .i32 (.ofNat 122)))) none (.o Q108 (.g Q127 Q37 none (.g Q128 (.bin .geq .geq 21 true s0 (.c (.int .i32 (.ofNat 65)))) none (.g Q129 Q11 none (.g Q28 Q37 none (.g Q29 (.bin .leq .leq 21 true s0 (.c (.int .i32 (.ofNat 90)))) none (.g Q222 Q108 none (.o (.pick s6 b1 s0) (.g Q127 Q37 none (.g Q128 (.bin .eql .eql 21 true s0 (.c (.int .i32 (.ofNat 95)))) none (.o Q197 (.g Q127 Q37 none (.g Q128 (.bin .geq .geq 21 true s0 (.c (.int .i32 (.ofNat 128)))) none (.o Q197 Q50)))))))))))))))))) .ret)))
theorem dec124 : dF [0, 2] 1 124 = some ff124 := by kernel_rfl
def ff131:FFn:=(.mk [d3] [(.c t5 129), (.t t9)] (.seq (.reg (.op Q190 p5 Q177)) (.seq (.seq Q234 (.cond t7 (.seq (.reg (.o (.ldN 6 t5) (.o (.sto 6 t5 s0) Q177))) .ret) .skip)) (.seq (.reg (.chk t3 (.o Q132 (.o Q151 (.o Q69 (.o Q181 (.chk t3 (.o Q132 (.o Q151 (.o Q69 (.o Q75 (.o Q10 (.o Q214 (.o (.sto 6 t5 s6) (.op Q44 p9 .nil))))))))))))))) .ret))))
theorem dec131 : dF [0, 2, 9, 3] 1 131 = some ff131 := by kernel_rfl
def ff132:FFn:=(.mk [d3] [(.c t5 131)] (.seq (.reg (.op Q117 p5 .nil)) (.seq (.seq Q234 (.cond t7 (.seq (.reg (.chk t3 (.o (.sto 1 (.f 2 t3) b1) .nil))) Q235) .skip)) (.seq (.regL (.o Q37 (.o Q37 (.o Q68 (.o Q69 (.o Q10 (.o Q151 (.o Q179 (.o Q37 (.o Q68 (.o Q69 (.o Q10 (.o (.slow (Go.Op.slice 100 (Go.Operand.tmp 23) (some (Go.Operand.const (Go.Value.int Go.IntKind.i64 1))) none none) [(23, s0)]) (.o (.sto 7 t5 s5) (.o (.nilc s12) (.o Q69 Q65))))))))))))))) [(10, 12)] []) Q235))))
theorem dec132 : dF [0, 2, 8] 1 132 = some ff132 := by kernel_rfl
def ff133:FFn:=(.mk [d5, d7, d9] [(.t t1)] (.seq Q167 (.seq (.reg (.o (.call 131 [t5]) (.o Q42 (.o Q43 (.op Q190 p3 (.o (.sto 6 s0 s2) .nil)))))) (.seq (.reg (.o Q61 (.o Q10 (.o (.bin .eql .eql 3 false s0 t7) (.g Q28 Q63 none (.g Q29 Q10 none (.g Q30 (.mv t9) none (.g Q70 Q186 none (.o Q149 Q12))))))))) .ret))))
theorem dec133 : dF [7, 0, 1, 2, 6] 3 133 = some ff133 := by kernel_rfl
def ff134:FFn:=(.mk [d3] [(.c t5 158), (.t t4)] (.seq (.reg (.op (.alloc Q229 158) p5 Q205)) (.seq (.reg (.o (.call 131 [t3]) (.o Q42 (.o Q43 (.op Q190 p7 (.o (.sto 6 s0 s2) .nil)))))) (.seq (.block 0 (.seq (.reg (.o Q112 (.o Q10 (.o (.bin .eql .eql 3 true s0 n4) (.g Q28 (.faddr 5 t7) none (.g Q29 Q10 none (.o Q108 Q33))))))) (.cond t9 (.seq Q233 (.seq (.reg (.o (.faddr 1 t7) (.o Q10 (.o (.bld Q229 [(0, 1), (1, 1), (2, 1), (3, 1), (4, 1), (5, 1), (6, 1), (7, 1)] [0, 1] [n1, s0]) Q236)))) .ret)) (.seq (.reg (.o (.call 133 [t3, n9, (.c (.str [46]))]) Q12)) (.cond t1 (.seq Q233 (.seq (.reg (.o (.call 148 [t3, n1]) (.o (.fldA 0 6 s0) (.o (.fld1 1 s0) (.o (.bld Q229 [(0, 1), (1, 1), (2, 1), (3, 1), (4, 1), (5, 1), (6, 1), (7, 1)] [0, 1] [n2, s0]) Q236))))) .ret)) (.seq (.reg (.o (.call 133 [t3, n19, (.c (.str [91]))]) Q146)) (.cond t2 (.seq (.reg (.o (.call 132 [t3]) (.o (.fld1 6 s0) (.o (.call 149 [s0]) (.o Q42 (.o Q43 (.o (.sto 8 t5 s1) (.op Q44 p4 .nil)))))))) (.seq (.reg (.chk t3 (.o (.ld1 (.f 2 t3)) (.g Q127 (.mv t4) none (.g Q128 Q22 none (.o Q197 (.chk t3 (.o (.sto 1 (.f 2 t3) s0) .nil)))))))) (.seq (.reg (.o (.ldN 8 t5) Q236)) .ret))) (.seq (.reg (.o Q112 (.o Q10 (.o Q231 (.g Q28 Q37 none (.g Q29 (.call 114 [s0]) none (.g Q30 Q24 none (.o Q31 Q53)))))))) (.cond t6 (.seq Q233 (.seq (.reg (.o (.call 150 [t3]) Q236)) .ret)) .skip))))))))) (.seq (.reg (.o (.ldN 8 t5) (.o (.sto 8 t5 s0) Q205))) .ret)))))
theorem dec134 : dF [0, 2, 4, 11, 24, 34, 3, 56] 1 134 = some ff134 := by kernel_rfl
def ff135:FFn:=(.mk [d3, d5] [(.t t7)] (.seq Q88 (.seq (.reg (.o (.call 39 [t3]) (.o (.call 61 [s0, t5]) (.o Q101 Q15)))) .ret)))
theorem dec135 : dF [0, 1, 4] 2 135 = some ff135 := by kernel_rfl
def ff136:FFn:=(.mk [d3] [(.t t9)] (.seq (.reg (.op Q47 p9 .nil)) (.seq Q204 (.seq (.block 0 (.loop (.seq (.seq (.reg (.op (.call 133 [t3, n13, q0]) p5 .nil)) Q153) (.block 1 Q233)))) (.seq (.reg (.chk t3 (.o Q132 (.o Q6 (.o (.bin .lss .lss 3 false s0 t7) Q33))))) .ret)))))
theorem dec136 : dF [0, 10, 3, 2] 1 136 = some ff136 := by kernel_rfl
def ff145:FFn:=(.mk [d3] [(.t t5)] (.seq (.reg (.op (.mv Q35) p5 .nil)) (.seq (.reg (.o (.slow ((Go.Oper.op (Go.Oper.mk (some 4) (Go.Op.makeMap 260 none) 260 "match.go:37" List.nil.toArray none))) []) (.o (.slow ((Go.Oper.op (Go.Oper.mk (some 5) (Go.Op.makeMap 261 none) 261 "match.go:37" List.nil.toArray none))) []) (.o (.bld [.nilp, .nilmap, .nilmap] [(0, 1), (1, 1), (2, 1)] [0, 1, 2] [t3, s1, s0]) (.o (.box 263 s0) Q50))))) .ret)))
theorem dec145 : dF [0, 2] 1 145 = some ff145 := by kernel_rfl
def ff147:FFn:=(.mk [d3] [(.t t5)] (.seq Q48 (.seq (.reg (.o (.bin .neq .neq 3 false t3 t3) Q50)) .ret)))
theorem dec147 : dF [0, 2] 1 147 = some ff147 := by kernel_rfl
def ff154:FFn:=(.mk [d4, d9, d6, d8] [(.t t0)] (.seq (.reg (.op (.box 252 t4) p7 (.op (.box 265 t6) p3 (.op (.box 3 t8) p5 (.op Q47 p0 .nil))))) (.seq (.seq (.reg (.o Q237 (.chk s0 (.o (.ld1 (.f 0 s0)) (.o Q6 (.o Q24 (.g Q127 Q237 none (.g Q128 Q68 none (.g Q129 Q75 none (.g Q201 Q10 none (.g Q216 Q6 none (.g Q222 Q237 none (.g Q223 Q68 none (.g Q202 Q69 none (.g Q224 Q10 none (.g Q225 Q6 none (.g Q226 Q154 none (.g Q227 (.bin .neq .neq 3 false s6 s0) none (.op (.pick s12 b1 s0) p10 .nil))))))))))))))))))) (.cond t10 (.seq (.reg (.op Q47 p0 .nil)) .ret) .skip)) (.seq (.reg (.o Q237 (.o (.ld1 t5) (.o (.bld [.nilp, Q19, Q19] [(0, 1), (1, 1), (2, 1)] [0, 1, 2] [s1, s0, t9]) (.op (.alloc [.nilp, Q19, Q19] 270) p2 (.o (.sto 3 s0 s1) .nil)))))) (.seq (.seq (.reg (.o (.ld1 t7) (.chk s0 (.o Q238 (.o (.ldN 3 t2) (.o (.slow ((Go.Oper.op (Go.Oper.mk (some 43) (Go.Op.lookup 260 (Go.Operand.tmp 41) (Go.Operand.tmp 42) Bool.true) 271 "match.go:163" (List.toArray (List.cons (Go.Edge.mk 3 Go.Ground.data) (List.cons (Go.Edge.mk 4 Go.Ground.data) List.nil))) none))) [(41, s1), (42, s0)]) (.o Q42 (.o Q43 (.op Q44 p13 Q156))))))))) (.seq (.reg (.op (.mv t12) p11 .nil)) (.cond t11 (.seq (.reg (.op (.mv t13) p0 .nil)) .ret) .skip))) (.seq (.reg (.o (.ld1 t7) (.o Q237 (.chk s0 (.o (.ld1 (.f 0 s0)) (.o (.ld1 t5) (.o (.iadr 2 s1 s0) (.o (.ldN 2 s0) (.o (.call 158 [s5, t9, s0]) Q12))))))))) (.seq (.seq (.reg (.g (.on t1 true) (.ld1 t5) none (.g (.on t1 true) Q49 none (.op (.pick t1 s0 b0) p14 .nil)))) (.cond t14 (.reg (.o (.ld1 t7) (.o Q237 (.chk s0 (.o Q238 (.o (.ld1 t5) (.o Q154 (.o (.iadr 1 s2 s0) (.o Q10 (.o (.call 160 [s6, t9, s0]) (.o (.mkfn 161 [] [t7, t3, t5]) (.o (.call 159 [s1, s0]) Q12)))))))))))) .skip)) (.seq (.reg (.o (.ld1 t7) (.chk s0 (.o Q238 (.o (.ldN 3 t2) (.o (.slow ((Go.Oper.op (Go.Oper.mk none (Go.Op.mapUpdate 260 (Go.Operand.tmp 79) (Go.Operand.tmp 80) (Go.Operand.tmp 81)) 0 "match.go:170" (List.toArray (List.cons (Go.Edge.mk 3 Go.Ground.data) (List.cons (Go.Edge.mk 4 Go.Ground.data) (List.cons (Go.Edge.mk 5 Go.Ground.data) (List.cons (Go.Edge.mk 0 Go.Ground.phase) (List.cons (Go.Edge.mk 1 Go.Ground.phase) (List.cons (Go.Edge.mk 2 Go.Ground.phase) (List.cons (Go.Edge.mk 3 Go.Ground.phase) (List.cons (Go.Edge.mk 4 Go.Ground.phase) (List.cons (Go.Edge.mk 5 Go.Ground.phase) List.nil)))))))))) none))) [(79, s1), (80, s0), (81, t1)]) .nil)))))) (.seq (.reg (.op (.mv t1) p0 .nil)) .ret)))))))))
theorem dec154 : dF [6, 7, 4, 1, 12, 9, 0, 2, 3, 32, 11, 46, 10, 62, 8] 4 154 = some ff154 := by kernel_rfl
def ff155:FFn:=(.mk [d3, d5] [(.t t7)] (.seq Q67 (.seq (.reg (.o (.call 162 [t3, t5]) Q86)) .ret)))
theorem dec155 : dF [0, 1, 4] 2 155 = some ff155 := by kernel_rfl
def ff159:FFn:=(.mk [d3, d5] [(.t t7)] (.seq Q67 (.seq (.reg (.o (.call 169 [t3, t5]) Q86)) .ret)))
theorem dec159 : dF [0, 1, 4] 2 159 = some ff159 := by kernel_rfl
def ff176:FFn:=(.mk [d5, d2] [(.t t6)] (.seq Q158 (.seq (.seq Q159 (.block 0 (.loop (.seq Q160 (.seq Q161 (.seq (.block 1 (.seq Q162 (.seq (.reg (.o (.iadr 8 t5 t7) (.o (.ldN 8 s0) (.op (.slow (Go.Op.call (Go.Call.mk (Go.Callee.value (Go.Operand.tmp 11)) (List.toArray (List.cons (Go.Operand.tmp 15) List.nil)) (List.toArray (List.cons 158 List.nil)))) [(11, t2), (15, s0)]) p4 .nil)))) Q163))) Q100)))))) Q165)))
theorem dec176 : dF [8, 0, 5, 7, 9, 1, 16, 4] 2 176 = some ff176 := by kernel_rfl
def ff189:FFn:=(.mk [d3, d5] [(.t t7)] (.seq Q88 (.seq (.reg (.o (.call 207 [t3, t5]) Q15)) .ret)))
theorem dec189 : dF [0, 1, 4] 2 189 = some ff189 := by kernel_rfl
def ff191:FFn:=(.mk [d3] [(.t t5)] (.seq (.reg Q103) (.seq (.reg (.o (.bin .add .add 3 true t3 n16) (.o (.bin .quo .quo 3 true s0 n8) Q50))) .ret)))
theorem dec191 : dF [0, 2] 1 191 = some ff191 := by kernel_rfl
def ff229:FFn:=(.mk [d3] [(.t t5)] (.seq Q48 (.seq (.reg (.o (.bin .and .and 5 true t3 (.c (.int .u8 (.ofNat 192)))) (.o (.bin .neq .neq 5 true s0 Q91) Q50))) .ret)))
theorem dec229 : dF [0, 2] 1 229 = some ff229 := by kernel_rfl
def ff230:FFn:=(.mk [d3, d5] [(.t t7)] (.seq Q88 (.seq (.reg (.o (.call 189 [t3, t5]) Q15)) .ret)))
theorem dec230 : dF [0, 1, 4] 2 230 = some ff230 := by kernel_rfl
noncomputable def ftab : Tr FFn := (.node (.node (.node (.node (.node (.node (.node .leaf (some ff63) (.node .leaf (some ff191) .leaf)) none (.node (.node .leaf (some ff159) .leaf) none .leaf)) none .leaf) (some ff7) (.node (.node (.node (.node .leaf (some ff135) .leaf) none .leaf) (some ff39) (.node .leaf (some ff103) .leaf)) (some ff23) (.node (.node .leaf (some ff87) .leaf) (some ff55) (.node .leaf (some ff119) .leaf)))) none (.node (.node (.node (.node (.node .leaf (some ff131) .leaf) (some ff67) .leaf) (some ff35) (.node .leaf (some ff99) .leaf)) (some ff19) (.node (.node (.node .leaf (some ff147) .leaf) none .leaf) (some ff51) (.node .leaf (some ff115) .leaf))) none (.node (.node .leaf (some ff43) (.node .leaf (some ff107) .leaf)) none (.node (.node (.node .leaf (some ff155) .leaf) none .leaf) none .leaf)))) none (.node (.node (.node (.node (.node .leaf (some ff65) .leaf) none .leaf) none (.node (.node (.node .leaf (some ff145) .leaf) (some ff81) .leaf) (some ff49) (.node .leaf (some ff113) .leaf))) none (.node (.node (.node .leaf (some ff73) .leaf) none .leaf) (some ff25) (.node .leaf (some ff57) .leaf))) none (.node (.node (.node (.node (.node .leaf (some ff133) .leaf) (some ff69) .leaf) (some ff37) (.node .leaf none (.node .leaf (some ff229) .leaf))) none (.node (.node .leaf (some ff85) .leaf) (some ff53) (.node .leaf (some ff117) .leaf))) none (.node (.node (.node .leaf (some ff77) .leaf) (some ff45) .leaf) none (.node (.node .leaf (some ff93) .leaf) (some ff61) (.node (.node .leaf (some ff189) .leaf) none .leaf)))))) none (.node (.node (.node (.node (.node (.node .leaf (some ff64) .leaf) none (.node .leaf (some ff96) .leaf)) none (.node (.node .leaf (some ff80) .leaf) (some ff48) (.node (.node .leaf (some ff176) .leaf) (some ff112) .leaf))) none (.node (.node (.node (.node .leaf (some ff136) .leaf) (some ff72) .leaf) (some ff40) (.node .leaf (some ff104) .leaf)) (some ff24) (.node .leaf (some ff56) .leaf))) none (.node (.node (.node (.node (.node .leaf (some ff132) .leaf) none .leaf) (some ff36) (.node .leaf (some ff100) .leaf)) (some ff20) (.node (.node .leaf (some ff84) .leaf) (some ff52) (.node .leaf (some ff116) .leaf))) none (.node (.node (.node .leaf (some ff76) .leaf) (some ff44) (.node .leaf (some ff108) .leaf)) none (.node (.node .leaf (some ff92) .leaf) (some ff60) (.node .leaf (some ff124) .leaf))))) none (.node (.node (.node (.node (.node .leaf (some ff66) .leaf) none (.node .leaf (some ff98) .leaf)) (some ff18) (.node .leaf (some ff50) (.node .leaf (some ff114) .leaf))) none (.node (.node (.node .leaf (some ff74) .leaf) (some ff42) (.node .leaf (some ff106) .leaf)) (some ff26) (.node (.node (.node .leaf (some ff154) .leaf) none .leaf) (some ff58) .leaf))) none (.node (.node (.node (.node (.node .leaf (some ff134) .leaf) (some ff70) .leaf) (some ff38) (.node .leaf none (.node .leaf (some ff230) .leaf))) none (.node (.node .leaf (some ff86) .leaf) none .leaf)) none (.node (.node (.node .leaf (some ff78) .leaf) none .leaf) none (.node (.node .leaf (some ff94) .leaf) none .leaf))))))
set_option maxRecDepth 1000000 in
theorem ftab_eq : ftab = (Tr.put (some ff230) (Tr.put (some ff229) (Tr.put (some ff191) (Tr.put (some ff189) (Tr.put (some ff176) (Tr.put (some ff159) (Tr.put (some ff155) (Tr.put (some ff154) (Tr.put (some ff147) (Tr.put (some ff145) (Tr.put (some ff136) (Tr.put (some ff135) (Tr.put (some ff134) (Tr.put (some ff133) (Tr.put (some ff132) (Tr.put (some ff131) (Tr.put (some ff124) (Tr.put (some ff119) (Tr.put (some ff117) (Tr.put (some ff116) (Tr.put (some ff115) (Tr.put (some ff114) (Tr.put (some ff113) (Tr.put (some ff112) (Tr.put (some ff108) (Tr.put (some ff107) (Tr.put (some ff106) (Tr.put (some ff104) (Tr.put (some ff103) (Tr.put (some ff100) (Tr.put (some ff99) (Tr.put (some ff98) (Tr.put (some ff96) (Tr.put (some ff94) (Tr.put (some ff93) (Tr.put (some ff92) (Tr.put (some ff87) (Tr.put (some ff86) (Tr.put (some ff85) (Tr.put (some ff84) (Tr.put (some ff81) (Tr.put (some ff80) (Tr.put (some ff78) (Tr.put (some ff77) (Tr.put (some ff76) (Tr.put (some ff74) (Tr.put (some ff73) (Tr.put (some ff72) (Tr.put (some ff70) (Tr.put (some ff69) (Tr.put (some ff67) (Tr.put (some ff66) (Tr.put (some ff65) (Tr.put (some ff64) (Tr.put (some ff63) (Tr.put (some ff61) (Tr.put (some ff60) (Tr.put (some ff58) (Tr.put (some ff57) (Tr.put (some ff56) (Tr.put (some ff55) (Tr.put (some ff53) (Tr.put (some ff52) (Tr.put (some ff51) (Tr.put (some ff50) (Tr.put (some ff49) (Tr.put (some ff48) (Tr.put (some ff45) (Tr.put (some ff44) (Tr.put (some ff43) (Tr.put (some ff42) (Tr.put (some ff40) (Tr.put (some ff39) (Tr.put (some ff38) (Tr.put (some ff37) (Tr.put (some ff36) (Tr.put (some ff35) (Tr.put (some ff26) (Tr.put (some ff25) (Tr.put (some ff24) (Tr.put (some ff23) (Tr.put (some ff20) (Tr.put (some ff19) (Tr.put (some ff18) (Tr.put (some ff7) .leaf 7) 18) 19) 20) 23) 24) 25) 26) 35) 36) 37) 38) 39) 40) 42) 43) 44) 45) 48) 49) 50) 51) 52) 53) 55) 56) 57) 58) 60) 61) 63) 64) 65) 66) 67) 69) 70) 72) 73) 74) 76) 77) 78) 80) 81) 84) 85) 86) 87) 92) 93) 94) 96) 98) 99) 100) 103) 104) 106) 107) 108) 112) 113) 114) 115) 116) 117) 119) 124) 131) 132) 133) 134) 135) 136) 145) 147) 154) 155) 159) 176) 189) 191) 229) 230) := by kernel_rfl
set_option maxRecDepth 1000000 in
theorem tab_ok : TabOk Tryz.prog (inTr pur) ftab := by
  rw [ftab_eq]
  exact (TabOk.put (TabOk.put (TabOk.put (TabOk.put (TabOk.put (TabOk.put (TabOk.put (TabOk.put (TabOk.put (TabOk.put (TabOk.put (TabOk.put (TabOk.put (TabOk.put (TabOk.put (TabOk.put (TabOk.put (TabOk.put (TabOk.put (TabOk.put (TabOk.put (TabOk.put (TabOk.put (TabOk.put (TabOk.put (TabOk.put (TabOk.put (TabOk.put (TabOk.put (TabOk.put (TabOk.put (TabOk.put (TabOk.put (TabOk.put (TabOk.put (TabOk.put (TabOk.put (TabOk.put (TabOk.put (TabOk.put (TabOk.put (TabOk.put (TabOk.put (TabOk.put (TabOk.put (TabOk.put (TabOk.put (TabOk.put (TabOk.put (TabOk.put (TabOk.put (TabOk.put (TabOk.put (TabOk.put (TabOk.put (TabOk.put (TabOk.put (TabOk.put (TabOk.put (TabOk.put (TabOk.put (TabOk.put (TabOk.put (TabOk.put (TabOk.put (TabOk.put (TabOk.put (TabOk.put (TabOk.put (TabOk.put (TabOk.put (TabOk.put (TabOk.put (TabOk.put (TabOk.put (TabOk.put (TabOk.put (TabOk.put (TabOk.put (TabOk.put (TabOk.put (TabOk.put (TabOk.put (TabOk.put (TabOk.put (TabOk.leaf _ _) dec7) dec18) dec19) dec20) dec23) dec24) dec25) dec26) dec35) dec36) dec37) dec38) dec39) dec40) dec42) dec43) dec44) dec45) dec48) dec49) dec50) dec51) dec52) dec53) dec55) dec56) dec57) dec58) dec60) dec61) dec63) dec64) dec65) dec66) dec67) dec69) dec70) dec72) dec73) dec74) dec76) dec77) dec78) dec80) dec81) dec84) dec85) dec86) dec87) dec92) dec93) dec94) dec96) dec98) dec99) dec100) dec103) dec104) dec106) dec107) dec108) dec112) dec113) dec114) dec115) dec116) dec117) dec119) dec124) dec131) dec132) dec133) dec134) dec135) dec136) dec145) dec147) dec154) dec155) dec159) dec176) dec189) dec191) dec229) dec230)
end Go.Proofs.YtkpoeilfnopgbaaGreatDoor.HM
