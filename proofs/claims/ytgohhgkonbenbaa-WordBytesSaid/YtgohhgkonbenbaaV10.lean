/-
  The plain law of WordBytes.
-/
import Derived.Test.YtgohhgkonbenbaaG10
import Derived.Test.YtgohhgkonbenbaaAmW
namespace Go.Proofs.Ytgohhgkonbenbaa.G
open Go Go.AM

theorem vc10 (x0 : Int) (x1 : Int) (x2 : Int) (x3 : Int) (x4 : Int) (x5 : Int) (x6 : Int) (x7 : Int) (x8 : Int) (x9 : Int) (x10 : Int) (x11 : Int) (x12 : Int) (x13 : Int) (x14 : Int) (x15 : Int) (x16 : Int) (x17 : Int) (x18 : Int) (x19 : Int) (x20 : Int) (x21 : Int) (x22 : Int) (x23 : Int) (x24 : Int) (x25 : Int) (x26 : Int) (x27 : Int) (x28 : Int) (x29 : Int) (x30 : Int) (x31 : Int) (x32 : Int) (x33 : Int) (x34 : Int) (x35 : Int) (x36 : Int) (x37 : Int) (x38 : Int) (x39 : Int) (x40 : Int) (x41 : Int) (x42 : Int) (x43 : Int) (x44 : Int) (x45 : Int) (x46 : Int) (x47 : Int) (x48 : Int) (x49 : Int) (x50 : Int) (x51 : Int) (x52 : Int) (x53 : Int) (x54 : Int) (x55 : Int) (x56 : Int) (x57 : Int) (x58 : Int) (x59 : Int) (x60 : Int) (x61 : Int) (x62 : Int) (x63 : Int) (x64 : Int) (x65 : Int) (x66 : Int) (x67 : Int) (x68 : Int) (x69 : Int) (x70 : Int) (x71 : Int) (l0 : IntKind.min .u64 ≤ x0) (u0 : x0 ≤ IntKind.max .u64) (l1 : IntKind.min .u64 ≤ x1) (u1 : x1 ≤ IntKind.max .u64) (l2 : IntKind.min .u64 ≤ x2) (u2 : x2 ≤ IntKind.max .u64) (l3 : IntKind.min .u64 ≤ x3) (u3 : x3 ≤ IntKind.max .u64) (l4 : IntKind.min .u64 ≤ x4) (u4 : x4 ≤ IntKind.max .u64) (l5 : IntKind.min .u64 ≤ x5) (u5 : x5 ≤ IntKind.max .u64) (l6 : IntKind.min .u64 ≤ x6) (u6 : x6 ≤ IntKind.max .u64) (l7 : IntKind.min .u64 ≤ x7) (u7 : x7 ≤ IntKind.max .u64) (l8 : IntKind.min .u8 ≤ x8) (u8 : x8 ≤ IntKind.max .u8) (l9 : IntKind.min .u8 ≤ x9) (u9 : x9 ≤ IntKind.max .u8) (l10 : IntKind.min .u8 ≤ x10) (u10 : x10 ≤ IntKind.max .u8) (l11 : IntKind.min .u8 ≤ x11) (u11 : x11 ≤ IntKind.max .u8) (l12 : IntKind.min .u8 ≤ x12) (u12 : x12 ≤ IntKind.max .u8) (l13 : IntKind.min .u8 ≤ x13) (u13 : x13 ≤ IntKind.max .u8) (l14 : IntKind.min .u8 ≤ x14) (u14 : x14 ≤ IntKind.max .u8) (l15 : IntKind.min .u8 ≤ x15) (u15 : x15 ≤ IntKind.max .u8) (l16 : IntKind.min .u8 ≤ x16) (u16 : x16 ≤ IntKind.max .u8) (l17 : IntKind.min .u8 ≤ x17) (u17 : x17 ≤ IntKind.max .u8) (l18 : IntKind.min .u8 ≤ x18) (u18 : x18 ≤ IntKind.max .u8) (l19 : IntKind.min .u8 ≤ x19) (u19 : x19 ≤ IntKind.max .u8) (l20 : IntKind.min .u8 ≤ x20) (u20 : x20 ≤ IntKind.max .u8) (l21 : IntKind.min .u8 ≤ x21) (u21 : x21 ≤ IntKind.max .u8) (l22 : IntKind.min .u8 ≤ x22) (u22 : x22 ≤ IntKind.max .u8) (l23 : IntKind.min .u8 ≤ x23) (u23 : x23 ≤ IntKind.max .u8) (l24 : IntKind.min .u8 ≤ x24) (u24 : x24 ≤ IntKind.max .u8) (l25 : IntKind.min .u8 ≤ x25) (u25 : x25 ≤ IntKind.max .u8) (l26 : IntKind.min .u8 ≤ x26) (u26 : x26 ≤ IntKind.max .u8) (l27 : IntKind.min .u8 ≤ x27) (u27 : x27 ≤ IntKind.max .u8) (l28 : IntKind.min .u8 ≤ x28) (u28 : x28 ≤ IntKind.max .u8) (l29 : IntKind.min .u8 ≤ x29) (u29 : x29 ≤ IntKind.max .u8) (l30 : IntKind.min .u8 ≤ x30) (u30 : x30 ≤ IntKind.max .u8) (l31 : IntKind.min .u8 ≤ x31) (u31 : x31 ≤ IntKind.max .u8) (l32 : IntKind.min .u8 ≤ x32) (u32 : x32 ≤ IntKind.max .u8) (l33 : IntKind.min .u8 ≤ x33) (u33 : x33 ≤ IntKind.max .u8) (l34 : IntKind.min .u8 ≤ x34) (u34 : x34 ≤ IntKind.max .u8) (l35 : IntKind.min .u8 ≤ x35) (u35 : x35 ≤ IntKind.max .u8) (l36 : IntKind.min .u8 ≤ x36) (u36 : x36 ≤ IntKind.max .u8) (l37 : IntKind.min .u8 ≤ x37) (u37 : x37 ≤ IntKind.max .u8) (l38 : IntKind.min .u8 ≤ x38) (u38 : x38 ≤ IntKind.max .u8) (l39 : IntKind.min .u8 ≤ x39) (u39 : x39 ≤ IntKind.max .u8) (l40 : IntKind.min .u8 ≤ x40) (u40 : x40 ≤ IntKind.max .u8) (l41 : IntKind.min .u8 ≤ x41) (u41 : x41 ≤ IntKind.max .u8) (l42 : IntKind.min .u8 ≤ x42) (u42 : x42 ≤ IntKind.max .u8) (l43 : IntKind.min .u8 ≤ x43) (u43 : x43 ≤ IntKind.max .u8) (l44 : IntKind.min .u8 ≤ x44) (u44 : x44 ≤ IntKind.max .u8) (l45 : IntKind.min .u8 ≤ x45) (u45 : x45 ≤ IntKind.max .u8) (l46 : IntKind.min .u8 ≤ x46) (u46 : x46 ≤ IntKind.max .u8) (l47 : IntKind.min .u8 ≤ x47) (u47 : x47 ≤ IntKind.max .u8) (l48 : IntKind.min .u8 ≤ x48) (u48 : x48 ≤ IntKind.max .u8) (l49 : IntKind.min .u8 ≤ x49) (u49 : x49 ≤ IntKind.max .u8) (l50 : IntKind.min .u8 ≤ x50) (u50 : x50 ≤ IntKind.max .u8) (l51 : IntKind.min .u8 ≤ x51) (u51 : x51 ≤ IntKind.max .u8) (l52 : IntKind.min .u8 ≤ x52) (u52 : x52 ≤ IntKind.max .u8) (l53 : IntKind.min .u8 ≤ x53) (u53 : x53 ≤ IntKind.max .u8) (l54 : IntKind.min .u8 ≤ x54) (u54 : x54 ≤ IntKind.max .u8) (l55 : IntKind.min .u8 ≤ x55) (u55 : x55 ≤ IntKind.max .u8) (l56 : IntKind.min .u8 ≤ x56) (u56 : x56 ≤ IntKind.max .u8) (l57 : IntKind.min .u8 ≤ x57) (u57 : x57 ≤ IntKind.max .u8) (l58 : IntKind.min .u8 ≤ x58) (u58 : x58 ≤ IntKind.max .u8) (l59 : IntKind.min .u8 ≤ x59) (u59 : x59 ≤ IntKind.max .u8) (l60 : IntKind.min .u8 ≤ x60) (u60 : x60 ≤ IntKind.max .u8) (l61 : IntKind.min .u8 ≤ x61) (u61 : x61 ≤ IntKind.max .u8) (l62 : IntKind.min .u8 ≤ x62) (u62 : x62 ≤ IntKind.max .u8) (l63 : IntKind.min .u8 ≤ x63) (u63 : x63 ≤ IntKind.max .u8) (l64 : IntKind.min .u8 ≤ x64) (u64 : x64 ≤ IntKind.max .u8) (l65 : IntKind.min .u8 ≤ x65) (u65 : x65 ≤ IntKind.max .u8) (l66 : IntKind.min .u8 ≤ x66) (u66 : x66 ≤ IntKind.max .u8) (l67 : IntKind.min .u8 ≤ x67) (u67 : x67 ≤ IntKind.max .u8) (l68 : IntKind.min .u8 ≤ x68) (u68 : x68 ≤ IntKind.max .u8) (l69 : IntKind.min .u8 ≤ x69) (u69 : x69 ≤ IntKind.max .u8) (l70 : IntKind.min .u8 ≤ x70) (u70 : x70 ≤ IntKind.max .u8) (l71 : IntKind.min .u8 ≤ x71) (u71 : x71 ≤ IntKind.max .u8) : (T10 x0 x1 x2 x3 x4 x5 x6 x7 x8 x9 x10 x11 x12 x13 x14 x15 x16 x17 x18 x19 x20 x21 x22 x23 x24 x25 x26 x27 x28 x29 x30 x31 x32 x33 x34 x35 x36 x37 x38 x39 x40 x41 x42 x43 x44 x45 x46 x47 x48 x49 x50 x51 x52 x53 x54 x55 x56 x57 x58 x59 x60 x61 x62 x63 x64 x65 x66 x67 x68 x69 x70 x71).sat fun r => r = tvb true := by
  have c0 : r20_0 (r18_0 x0) (r18_1 x0) (r18_2 x0) (r18_3 x0) (r18_4 x0) (r18_5 x0) (r18_6 x0) (r18_7 x0) = x0 := join_bytes l0 u0
  have c1 : r20_1 (r18_8 x1) (r18_9 x1) (r18_10 x1) (r18_11 x1) (r18_12 x1) (r18_13 x1) (r18_14 x1) (r18_15 x1) = x1 := join_bytes l1 u1
  have c2 : r20_2 (r18_16 x2) (r18_17 x2) (r18_18 x2) (r18_19 x2) (r18_20 x2) (r18_21 x2) (r18_22 x2) (r18_23 x2) = x2 := join_bytes l2 u2
  have c3 : r20_3 (r18_24 x3) (r18_25 x3) (r18_26 x3) (r18_27 x3) (r18_28 x3) (r18_29 x3) (r18_30 x3) (r18_31 x3) = x3 := join_bytes l3 u3
  have c4 : r20_4 (r18_32 x4) (r18_33 x4) (r18_34 x4) (r18_35 x4) (r18_36 x4) (r18_37 x4) (r18_38 x4) (r18_39 x4) = x4 := join_bytes l4 u4
  have c5 : r20_5 (r18_40 x5) (r18_41 x5) (r18_42 x5) (r18_43 x5) (r18_44 x5) (r18_45 x5) (r18_46 x5) (r18_47 x5) = x5 := join_bytes l5 u5
  have c6 : r20_6 (r18_48 x6) (r18_49 x6) (r18_50 x6) (r18_51 x6) (r18_52 x6) (r18_53 x6) (r18_54 x6) (r18_55 x6) = x6 := join_bytes l6 u6
  have c7 : r20_7 (r18_56 x7) (r18_57 x7) (r18_58 x7) (r18_59 x7) (r18_60 x7) (r18_61 x7) (r18_62 x7) (r18_63 x7) = x7 := join_bytes l7 u7
  have d0 : r18_0 (r20_0 x8 x9 x10 x11 x12 x13 x14 x15) = x8 := byte_join0 ⟨l8, u8⟩ ⟨l9, u9⟩ ⟨l10, u10⟩ ⟨l11, u11⟩ ⟨l12, u12⟩ ⟨l13, u13⟩ ⟨l14, u14⟩ ⟨l15, u15⟩
  have d1 : r18_1 (r20_0 x8 x9 x10 x11 x12 x13 x14 x15) = x9 := byte_join1 ⟨l8, u8⟩ ⟨l9, u9⟩ ⟨l10, u10⟩ ⟨l11, u11⟩ ⟨l12, u12⟩ ⟨l13, u13⟩ ⟨l14, u14⟩ ⟨l15, u15⟩
  have d2 : r18_2 (r20_0 x8 x9 x10 x11 x12 x13 x14 x15) = x10 := byte_join2 ⟨l8, u8⟩ ⟨l9, u9⟩ ⟨l10, u10⟩ ⟨l11, u11⟩ ⟨l12, u12⟩ ⟨l13, u13⟩ ⟨l14, u14⟩ ⟨l15, u15⟩
  have d3 : r18_3 (r20_0 x8 x9 x10 x11 x12 x13 x14 x15) = x11 := byte_join3 ⟨l8, u8⟩ ⟨l9, u9⟩ ⟨l10, u10⟩ ⟨l11, u11⟩ ⟨l12, u12⟩ ⟨l13, u13⟩ ⟨l14, u14⟩ ⟨l15, u15⟩
  have d4 : r18_4 (r20_0 x8 x9 x10 x11 x12 x13 x14 x15) = x12 := byte_join4 ⟨l8, u8⟩ ⟨l9, u9⟩ ⟨l10, u10⟩ ⟨l11, u11⟩ ⟨l12, u12⟩ ⟨l13, u13⟩ ⟨l14, u14⟩ ⟨l15, u15⟩
  have d5 : r18_5 (r20_0 x8 x9 x10 x11 x12 x13 x14 x15) = x13 := byte_join5 ⟨l8, u8⟩ ⟨l9, u9⟩ ⟨l10, u10⟩ ⟨l11, u11⟩ ⟨l12, u12⟩ ⟨l13, u13⟩ ⟨l14, u14⟩ ⟨l15, u15⟩
  have d6 : r18_6 (r20_0 x8 x9 x10 x11 x12 x13 x14 x15) = x14 := byte_join6 ⟨l8, u8⟩ ⟨l9, u9⟩ ⟨l10, u10⟩ ⟨l11, u11⟩ ⟨l12, u12⟩ ⟨l13, u13⟩ ⟨l14, u14⟩ ⟨l15, u15⟩
  have d7 : r18_7 (r20_0 x8 x9 x10 x11 x12 x13 x14 x15) = x15 := byte_join7 ⟨l8, u8⟩ ⟨l9, u9⟩ ⟨l10, u10⟩ ⟨l11, u11⟩ ⟨l12, u12⟩ ⟨l13, u13⟩ ⟨l14, u14⟩ ⟨l15, u15⟩
  have d8 : r18_8 (r20_1 x16 x17 x18 x19 x20 x21 x22 x23) = x16 := byte_join0 ⟨l16, u16⟩ ⟨l17, u17⟩ ⟨l18, u18⟩ ⟨l19, u19⟩ ⟨l20, u20⟩ ⟨l21, u21⟩ ⟨l22, u22⟩ ⟨l23, u23⟩
  have d9 : r18_9 (r20_1 x16 x17 x18 x19 x20 x21 x22 x23) = x17 := byte_join1 ⟨l16, u16⟩ ⟨l17, u17⟩ ⟨l18, u18⟩ ⟨l19, u19⟩ ⟨l20, u20⟩ ⟨l21, u21⟩ ⟨l22, u22⟩ ⟨l23, u23⟩
  have d10 : r18_10 (r20_1 x16 x17 x18 x19 x20 x21 x22 x23) = x18 := byte_join2 ⟨l16, u16⟩ ⟨l17, u17⟩ ⟨l18, u18⟩ ⟨l19, u19⟩ ⟨l20, u20⟩ ⟨l21, u21⟩ ⟨l22, u22⟩ ⟨l23, u23⟩
  have d11 : r18_11 (r20_1 x16 x17 x18 x19 x20 x21 x22 x23) = x19 := byte_join3 ⟨l16, u16⟩ ⟨l17, u17⟩ ⟨l18, u18⟩ ⟨l19, u19⟩ ⟨l20, u20⟩ ⟨l21, u21⟩ ⟨l22, u22⟩ ⟨l23, u23⟩
  have d12 : r18_12 (r20_1 x16 x17 x18 x19 x20 x21 x22 x23) = x20 := byte_join4 ⟨l16, u16⟩ ⟨l17, u17⟩ ⟨l18, u18⟩ ⟨l19, u19⟩ ⟨l20, u20⟩ ⟨l21, u21⟩ ⟨l22, u22⟩ ⟨l23, u23⟩
  have d13 : r18_13 (r20_1 x16 x17 x18 x19 x20 x21 x22 x23) = x21 := byte_join5 ⟨l16, u16⟩ ⟨l17, u17⟩ ⟨l18, u18⟩ ⟨l19, u19⟩ ⟨l20, u20⟩ ⟨l21, u21⟩ ⟨l22, u22⟩ ⟨l23, u23⟩
  have d14 : r18_14 (r20_1 x16 x17 x18 x19 x20 x21 x22 x23) = x22 := byte_join6 ⟨l16, u16⟩ ⟨l17, u17⟩ ⟨l18, u18⟩ ⟨l19, u19⟩ ⟨l20, u20⟩ ⟨l21, u21⟩ ⟨l22, u22⟩ ⟨l23, u23⟩
  have d15 : r18_15 (r20_1 x16 x17 x18 x19 x20 x21 x22 x23) = x23 := byte_join7 ⟨l16, u16⟩ ⟨l17, u17⟩ ⟨l18, u18⟩ ⟨l19, u19⟩ ⟨l20, u20⟩ ⟨l21, u21⟩ ⟨l22, u22⟩ ⟨l23, u23⟩
  have d16 : r18_16 (r20_2 x24 x25 x26 x27 x28 x29 x30 x31) = x24 := byte_join0 ⟨l24, u24⟩ ⟨l25, u25⟩ ⟨l26, u26⟩ ⟨l27, u27⟩ ⟨l28, u28⟩ ⟨l29, u29⟩ ⟨l30, u30⟩ ⟨l31, u31⟩
  have d17 : r18_17 (r20_2 x24 x25 x26 x27 x28 x29 x30 x31) = x25 := byte_join1 ⟨l24, u24⟩ ⟨l25, u25⟩ ⟨l26, u26⟩ ⟨l27, u27⟩ ⟨l28, u28⟩ ⟨l29, u29⟩ ⟨l30, u30⟩ ⟨l31, u31⟩
  have d18 : r18_18 (r20_2 x24 x25 x26 x27 x28 x29 x30 x31) = x26 := byte_join2 ⟨l24, u24⟩ ⟨l25, u25⟩ ⟨l26, u26⟩ ⟨l27, u27⟩ ⟨l28, u28⟩ ⟨l29, u29⟩ ⟨l30, u30⟩ ⟨l31, u31⟩
  have d19 : r18_19 (r20_2 x24 x25 x26 x27 x28 x29 x30 x31) = x27 := byte_join3 ⟨l24, u24⟩ ⟨l25, u25⟩ ⟨l26, u26⟩ ⟨l27, u27⟩ ⟨l28, u28⟩ ⟨l29, u29⟩ ⟨l30, u30⟩ ⟨l31, u31⟩
  have d20 : r18_20 (r20_2 x24 x25 x26 x27 x28 x29 x30 x31) = x28 := byte_join4 ⟨l24, u24⟩ ⟨l25, u25⟩ ⟨l26, u26⟩ ⟨l27, u27⟩ ⟨l28, u28⟩ ⟨l29, u29⟩ ⟨l30, u30⟩ ⟨l31, u31⟩
  have d21 : r18_21 (r20_2 x24 x25 x26 x27 x28 x29 x30 x31) = x29 := byte_join5 ⟨l24, u24⟩ ⟨l25, u25⟩ ⟨l26, u26⟩ ⟨l27, u27⟩ ⟨l28, u28⟩ ⟨l29, u29⟩ ⟨l30, u30⟩ ⟨l31, u31⟩
  have d22 : r18_22 (r20_2 x24 x25 x26 x27 x28 x29 x30 x31) = x30 := byte_join6 ⟨l24, u24⟩ ⟨l25, u25⟩ ⟨l26, u26⟩ ⟨l27, u27⟩ ⟨l28, u28⟩ ⟨l29, u29⟩ ⟨l30, u30⟩ ⟨l31, u31⟩
  have d23 : r18_23 (r20_2 x24 x25 x26 x27 x28 x29 x30 x31) = x31 := byte_join7 ⟨l24, u24⟩ ⟨l25, u25⟩ ⟨l26, u26⟩ ⟨l27, u27⟩ ⟨l28, u28⟩ ⟨l29, u29⟩ ⟨l30, u30⟩ ⟨l31, u31⟩
  have d24 : r18_24 (r20_3 x32 x33 x34 x35 x36 x37 x38 x39) = x32 := byte_join0 ⟨l32, u32⟩ ⟨l33, u33⟩ ⟨l34, u34⟩ ⟨l35, u35⟩ ⟨l36, u36⟩ ⟨l37, u37⟩ ⟨l38, u38⟩ ⟨l39, u39⟩
  have d25 : r18_25 (r20_3 x32 x33 x34 x35 x36 x37 x38 x39) = x33 := byte_join1 ⟨l32, u32⟩ ⟨l33, u33⟩ ⟨l34, u34⟩ ⟨l35, u35⟩ ⟨l36, u36⟩ ⟨l37, u37⟩ ⟨l38, u38⟩ ⟨l39, u39⟩
  have d26 : r18_26 (r20_3 x32 x33 x34 x35 x36 x37 x38 x39) = x34 := byte_join2 ⟨l32, u32⟩ ⟨l33, u33⟩ ⟨l34, u34⟩ ⟨l35, u35⟩ ⟨l36, u36⟩ ⟨l37, u37⟩ ⟨l38, u38⟩ ⟨l39, u39⟩
  have d27 : r18_27 (r20_3 x32 x33 x34 x35 x36 x37 x38 x39) = x35 := byte_join3 ⟨l32, u32⟩ ⟨l33, u33⟩ ⟨l34, u34⟩ ⟨l35, u35⟩ ⟨l36, u36⟩ ⟨l37, u37⟩ ⟨l38, u38⟩ ⟨l39, u39⟩
  have d28 : r18_28 (r20_3 x32 x33 x34 x35 x36 x37 x38 x39) = x36 := byte_join4 ⟨l32, u32⟩ ⟨l33, u33⟩ ⟨l34, u34⟩ ⟨l35, u35⟩ ⟨l36, u36⟩ ⟨l37, u37⟩ ⟨l38, u38⟩ ⟨l39, u39⟩
  have d29 : r18_29 (r20_3 x32 x33 x34 x35 x36 x37 x38 x39) = x37 := byte_join5 ⟨l32, u32⟩ ⟨l33, u33⟩ ⟨l34, u34⟩ ⟨l35, u35⟩ ⟨l36, u36⟩ ⟨l37, u37⟩ ⟨l38, u38⟩ ⟨l39, u39⟩
  have d30 : r18_30 (r20_3 x32 x33 x34 x35 x36 x37 x38 x39) = x38 := byte_join6 ⟨l32, u32⟩ ⟨l33, u33⟩ ⟨l34, u34⟩ ⟨l35, u35⟩ ⟨l36, u36⟩ ⟨l37, u37⟩ ⟨l38, u38⟩ ⟨l39, u39⟩
  have d31 : r18_31 (r20_3 x32 x33 x34 x35 x36 x37 x38 x39) = x39 := byte_join7 ⟨l32, u32⟩ ⟨l33, u33⟩ ⟨l34, u34⟩ ⟨l35, u35⟩ ⟨l36, u36⟩ ⟨l37, u37⟩ ⟨l38, u38⟩ ⟨l39, u39⟩
  have d32 : r18_32 (r20_4 x40 x41 x42 x43 x44 x45 x46 x47) = x40 := byte_join0 ⟨l40, u40⟩ ⟨l41, u41⟩ ⟨l42, u42⟩ ⟨l43, u43⟩ ⟨l44, u44⟩ ⟨l45, u45⟩ ⟨l46, u46⟩ ⟨l47, u47⟩
  have d33 : r18_33 (r20_4 x40 x41 x42 x43 x44 x45 x46 x47) = x41 := byte_join1 ⟨l40, u40⟩ ⟨l41, u41⟩ ⟨l42, u42⟩ ⟨l43, u43⟩ ⟨l44, u44⟩ ⟨l45, u45⟩ ⟨l46, u46⟩ ⟨l47, u47⟩
  have d34 : r18_34 (r20_4 x40 x41 x42 x43 x44 x45 x46 x47) = x42 := byte_join2 ⟨l40, u40⟩ ⟨l41, u41⟩ ⟨l42, u42⟩ ⟨l43, u43⟩ ⟨l44, u44⟩ ⟨l45, u45⟩ ⟨l46, u46⟩ ⟨l47, u47⟩
  have d35 : r18_35 (r20_4 x40 x41 x42 x43 x44 x45 x46 x47) = x43 := byte_join3 ⟨l40, u40⟩ ⟨l41, u41⟩ ⟨l42, u42⟩ ⟨l43, u43⟩ ⟨l44, u44⟩ ⟨l45, u45⟩ ⟨l46, u46⟩ ⟨l47, u47⟩
  have d36 : r18_36 (r20_4 x40 x41 x42 x43 x44 x45 x46 x47) = x44 := byte_join4 ⟨l40, u40⟩ ⟨l41, u41⟩ ⟨l42, u42⟩ ⟨l43, u43⟩ ⟨l44, u44⟩ ⟨l45, u45⟩ ⟨l46, u46⟩ ⟨l47, u47⟩
  have d37 : r18_37 (r20_4 x40 x41 x42 x43 x44 x45 x46 x47) = x45 := byte_join5 ⟨l40, u40⟩ ⟨l41, u41⟩ ⟨l42, u42⟩ ⟨l43, u43⟩ ⟨l44, u44⟩ ⟨l45, u45⟩ ⟨l46, u46⟩ ⟨l47, u47⟩
  have d38 : r18_38 (r20_4 x40 x41 x42 x43 x44 x45 x46 x47) = x46 := byte_join6 ⟨l40, u40⟩ ⟨l41, u41⟩ ⟨l42, u42⟩ ⟨l43, u43⟩ ⟨l44, u44⟩ ⟨l45, u45⟩ ⟨l46, u46⟩ ⟨l47, u47⟩
  have d39 : r18_39 (r20_4 x40 x41 x42 x43 x44 x45 x46 x47) = x47 := byte_join7 ⟨l40, u40⟩ ⟨l41, u41⟩ ⟨l42, u42⟩ ⟨l43, u43⟩ ⟨l44, u44⟩ ⟨l45, u45⟩ ⟨l46, u46⟩ ⟨l47, u47⟩
  have d40 : r18_40 (r20_5 x48 x49 x50 x51 x52 x53 x54 x55) = x48 := byte_join0 ⟨l48, u48⟩ ⟨l49, u49⟩ ⟨l50, u50⟩ ⟨l51, u51⟩ ⟨l52, u52⟩ ⟨l53, u53⟩ ⟨l54, u54⟩ ⟨l55, u55⟩
  have d41 : r18_41 (r20_5 x48 x49 x50 x51 x52 x53 x54 x55) = x49 := byte_join1 ⟨l48, u48⟩ ⟨l49, u49⟩ ⟨l50, u50⟩ ⟨l51, u51⟩ ⟨l52, u52⟩ ⟨l53, u53⟩ ⟨l54, u54⟩ ⟨l55, u55⟩
  have d42 : r18_42 (r20_5 x48 x49 x50 x51 x52 x53 x54 x55) = x50 := byte_join2 ⟨l48, u48⟩ ⟨l49, u49⟩ ⟨l50, u50⟩ ⟨l51, u51⟩ ⟨l52, u52⟩ ⟨l53, u53⟩ ⟨l54, u54⟩ ⟨l55, u55⟩
  have d43 : r18_43 (r20_5 x48 x49 x50 x51 x52 x53 x54 x55) = x51 := byte_join3 ⟨l48, u48⟩ ⟨l49, u49⟩ ⟨l50, u50⟩ ⟨l51, u51⟩ ⟨l52, u52⟩ ⟨l53, u53⟩ ⟨l54, u54⟩ ⟨l55, u55⟩
  have d44 : r18_44 (r20_5 x48 x49 x50 x51 x52 x53 x54 x55) = x52 := byte_join4 ⟨l48, u48⟩ ⟨l49, u49⟩ ⟨l50, u50⟩ ⟨l51, u51⟩ ⟨l52, u52⟩ ⟨l53, u53⟩ ⟨l54, u54⟩ ⟨l55, u55⟩
  have d45 : r18_45 (r20_5 x48 x49 x50 x51 x52 x53 x54 x55) = x53 := byte_join5 ⟨l48, u48⟩ ⟨l49, u49⟩ ⟨l50, u50⟩ ⟨l51, u51⟩ ⟨l52, u52⟩ ⟨l53, u53⟩ ⟨l54, u54⟩ ⟨l55, u55⟩
  have d46 : r18_46 (r20_5 x48 x49 x50 x51 x52 x53 x54 x55) = x54 := byte_join6 ⟨l48, u48⟩ ⟨l49, u49⟩ ⟨l50, u50⟩ ⟨l51, u51⟩ ⟨l52, u52⟩ ⟨l53, u53⟩ ⟨l54, u54⟩ ⟨l55, u55⟩
  have d47 : r18_47 (r20_5 x48 x49 x50 x51 x52 x53 x54 x55) = x55 := byte_join7 ⟨l48, u48⟩ ⟨l49, u49⟩ ⟨l50, u50⟩ ⟨l51, u51⟩ ⟨l52, u52⟩ ⟨l53, u53⟩ ⟨l54, u54⟩ ⟨l55, u55⟩
  have d48 : r18_48 (r20_6 x56 x57 x58 x59 x60 x61 x62 x63) = x56 := byte_join0 ⟨l56, u56⟩ ⟨l57, u57⟩ ⟨l58, u58⟩ ⟨l59, u59⟩ ⟨l60, u60⟩ ⟨l61, u61⟩ ⟨l62, u62⟩ ⟨l63, u63⟩
  have d49 : r18_49 (r20_6 x56 x57 x58 x59 x60 x61 x62 x63) = x57 := byte_join1 ⟨l56, u56⟩ ⟨l57, u57⟩ ⟨l58, u58⟩ ⟨l59, u59⟩ ⟨l60, u60⟩ ⟨l61, u61⟩ ⟨l62, u62⟩ ⟨l63, u63⟩
  have d50 : r18_50 (r20_6 x56 x57 x58 x59 x60 x61 x62 x63) = x58 := byte_join2 ⟨l56, u56⟩ ⟨l57, u57⟩ ⟨l58, u58⟩ ⟨l59, u59⟩ ⟨l60, u60⟩ ⟨l61, u61⟩ ⟨l62, u62⟩ ⟨l63, u63⟩
  have d51 : r18_51 (r20_6 x56 x57 x58 x59 x60 x61 x62 x63) = x59 := byte_join3 ⟨l56, u56⟩ ⟨l57, u57⟩ ⟨l58, u58⟩ ⟨l59, u59⟩ ⟨l60, u60⟩ ⟨l61, u61⟩ ⟨l62, u62⟩ ⟨l63, u63⟩
  have d52 : r18_52 (r20_6 x56 x57 x58 x59 x60 x61 x62 x63) = x60 := byte_join4 ⟨l56, u56⟩ ⟨l57, u57⟩ ⟨l58, u58⟩ ⟨l59, u59⟩ ⟨l60, u60⟩ ⟨l61, u61⟩ ⟨l62, u62⟩ ⟨l63, u63⟩
  have d53 : r18_53 (r20_6 x56 x57 x58 x59 x60 x61 x62 x63) = x61 := byte_join5 ⟨l56, u56⟩ ⟨l57, u57⟩ ⟨l58, u58⟩ ⟨l59, u59⟩ ⟨l60, u60⟩ ⟨l61, u61⟩ ⟨l62, u62⟩ ⟨l63, u63⟩
  have d54 : r18_54 (r20_6 x56 x57 x58 x59 x60 x61 x62 x63) = x62 := byte_join6 ⟨l56, u56⟩ ⟨l57, u57⟩ ⟨l58, u58⟩ ⟨l59, u59⟩ ⟨l60, u60⟩ ⟨l61, u61⟩ ⟨l62, u62⟩ ⟨l63, u63⟩
  have d55 : r18_55 (r20_6 x56 x57 x58 x59 x60 x61 x62 x63) = x63 := byte_join7 ⟨l56, u56⟩ ⟨l57, u57⟩ ⟨l58, u58⟩ ⟨l59, u59⟩ ⟨l60, u60⟩ ⟨l61, u61⟩ ⟨l62, u62⟩ ⟨l63, u63⟩
  have d56 : r18_56 (r20_7 x64 x65 x66 x67 x68 x69 x70 x71) = x64 := byte_join0 ⟨l64, u64⟩ ⟨l65, u65⟩ ⟨l66, u66⟩ ⟨l67, u67⟩ ⟨l68, u68⟩ ⟨l69, u69⟩ ⟨l70, u70⟩ ⟨l71, u71⟩
  have d57 : r18_57 (r20_7 x64 x65 x66 x67 x68 x69 x70 x71) = x65 := byte_join1 ⟨l64, u64⟩ ⟨l65, u65⟩ ⟨l66, u66⟩ ⟨l67, u67⟩ ⟨l68, u68⟩ ⟨l69, u69⟩ ⟨l70, u70⟩ ⟨l71, u71⟩
  have d58 : r18_58 (r20_7 x64 x65 x66 x67 x68 x69 x70 x71) = x66 := byte_join2 ⟨l64, u64⟩ ⟨l65, u65⟩ ⟨l66, u66⟩ ⟨l67, u67⟩ ⟨l68, u68⟩ ⟨l69, u69⟩ ⟨l70, u70⟩ ⟨l71, u71⟩
  have d59 : r18_59 (r20_7 x64 x65 x66 x67 x68 x69 x70 x71) = x67 := byte_join3 ⟨l64, u64⟩ ⟨l65, u65⟩ ⟨l66, u66⟩ ⟨l67, u67⟩ ⟨l68, u68⟩ ⟨l69, u69⟩ ⟨l70, u70⟩ ⟨l71, u71⟩
  have d60 : r18_60 (r20_7 x64 x65 x66 x67 x68 x69 x70 x71) = x68 := byte_join4 ⟨l64, u64⟩ ⟨l65, u65⟩ ⟨l66, u66⟩ ⟨l67, u67⟩ ⟨l68, u68⟩ ⟨l69, u69⟩ ⟨l70, u70⟩ ⟨l71, u71⟩
  have d61 : r18_61 (r20_7 x64 x65 x66 x67 x68 x69 x70 x71) = x69 := byte_join5 ⟨l64, u64⟩ ⟨l65, u65⟩ ⟨l66, u66⟩ ⟨l67, u67⟩ ⟨l68, u68⟩ ⟨l69, u69⟩ ⟨l70, u70⟩ ⟨l71, u71⟩
  have d62 : r18_62 (r20_7 x64 x65 x66 x67 x68 x69 x70 x71) = x70 := byte_join6 ⟨l64, u64⟩ ⟨l65, u65⟩ ⟨l66, u66⟩ ⟨l67, u67⟩ ⟨l68, u68⟩ ⟨l69, u69⟩ ⟨l70, u70⟩ ⟨l71, u71⟩
  have d63 : r18_63 (r20_7 x64 x65 x66 x67 x68 x69 x70 x71) = x71 := byte_join7 ⟨l64, u64⟩ ⟨l65, u65⟩ ⟨l66, u66⟩ ⟨l67, u67⟩ ⟨l68, u68⟩ ⟨l69, u69⟩ ⟨l70, u70⟩ ⟨l71, u71⟩
  have q0 : ∀ x, r19_0 x = r18_0 x := fun _ => rfl
  have q1 : ∀ x, r19_1 x = r18_1 x := fun _ => rfl
  have q2 : ∀ x, r19_2 x = r18_2 x := fun _ => rfl
  have q3 : ∀ x, r19_3 x = r18_3 x := fun _ => rfl
  have q4 : ∀ x, r19_4 x = r18_4 x := fun _ => rfl
  have q5 : ∀ x, r19_5 x = r18_5 x := fun _ => rfl
  have q6 : ∀ x, r19_6 x = r18_6 x := fun _ => rfl
  have q7 : ∀ x, r19_7 x = r18_7 x := fun _ => rfl
  have q8 : ∀ x, r19_8 x = r18_8 x := fun _ => rfl
  have q9 : ∀ x, r19_9 x = r18_9 x := fun _ => rfl
  have q10 : ∀ x, r19_10 x = r18_10 x := fun _ => rfl
  have q11 : ∀ x, r19_11 x = r18_11 x := fun _ => rfl
  have q12 : ∀ x, r19_12 x = r18_12 x := fun _ => rfl
  have q13 : ∀ x, r19_13 x = r18_13 x := fun _ => rfl
  have q14 : ∀ x, r19_14 x = r18_14 x := fun _ => rfl
  have q15 : ∀ x, r19_15 x = r18_15 x := fun _ => rfl
  have q16 : ∀ x, r19_16 x = r18_16 x := fun _ => rfl
  have q17 : ∀ x, r19_17 x = r18_17 x := fun _ => rfl
  have q18 : ∀ x, r19_18 x = r18_18 x := fun _ => rfl
  have q19 : ∀ x, r19_19 x = r18_19 x := fun _ => rfl
  have q20 : ∀ x, r19_20 x = r18_20 x := fun _ => rfl
  have q21 : ∀ x, r19_21 x = r18_21 x := fun _ => rfl
  have q22 : ∀ x, r19_22 x = r18_22 x := fun _ => rfl
  have q23 : ∀ x, r19_23 x = r18_23 x := fun _ => rfl
  have q24 : ∀ x, r19_24 x = r18_24 x := fun _ => rfl
  have q25 : ∀ x, r19_25 x = r18_25 x := fun _ => rfl
  have q26 : ∀ x, r19_26 x = r18_26 x := fun _ => rfl
  have q27 : ∀ x, r19_27 x = r18_27 x := fun _ => rfl
  have q28 : ∀ x, r19_28 x = r18_28 x := fun _ => rfl
  have q29 : ∀ x, r19_29 x = r18_29 x := fun _ => rfl
  have q30 : ∀ x, r19_30 x = r18_30 x := fun _ => rfl
  have q31 : ∀ x, r19_31 x = r18_31 x := fun _ => rfl
  have q32 : ∀ x, r19_32 x = r18_32 x := fun _ => rfl
  have q33 : ∀ x, r19_33 x = r18_33 x := fun _ => rfl
  have q34 : ∀ x, r19_34 x = r18_34 x := fun _ => rfl
  have q35 : ∀ x, r19_35 x = r18_35 x := fun _ => rfl
  have q36 : ∀ x, r19_36 x = r18_36 x := fun _ => rfl
  have q37 : ∀ x, r19_37 x = r18_37 x := fun _ => rfl
  have q38 : ∀ x, r19_38 x = r18_38 x := fun _ => rfl
  have q39 : ∀ x, r19_39 x = r18_39 x := fun _ => rfl
  have q40 : ∀ x, r19_40 x = r18_40 x := fun _ => rfl
  have q41 : ∀ x, r19_41 x = r18_41 x := fun _ => rfl
  have q42 : ∀ x, r19_42 x = r18_42 x := fun _ => rfl
  have q43 : ∀ x, r19_43 x = r18_43 x := fun _ => rfl
  have q44 : ∀ x, r19_44 x = r18_44 x := fun _ => rfl
  have q45 : ∀ x, r19_45 x = r18_45 x := fun _ => rfl
  have q46 : ∀ x, r19_46 x = r18_46 x := fun _ => rfl
  have q47 : ∀ x, r19_47 x = r18_47 x := fun _ => rfl
  have q48 : ∀ x, r19_48 x = r18_48 x := fun _ => rfl
  have q49 : ∀ x, r19_49 x = r18_49 x := fun _ => rfl
  have q50 : ∀ x, r19_50 x = r18_50 x := fun _ => rfl
  have q51 : ∀ x, r19_51 x = r18_51 x := fun _ => rfl
  have q52 : ∀ x, r19_52 x = r18_52 x := fun _ => rfl
  have q53 : ∀ x, r19_53 x = r18_53 x := fun _ => rfl
  have q54 : ∀ x, r19_54 x = r18_54 x := fun _ => rfl
  have q55 : ∀ x, r19_55 x = r18_55 x := fun _ => rfl
  have q56 : ∀ x, r19_56 x = r18_56 x := fun _ => rfl
  have q57 : ∀ x, r19_57 x = r18_57 x := fun _ => rfl
  have q58 : ∀ x, r19_58 x = r18_58 x := fun _ => rfl
  have q59 : ∀ x, r19_59 x = r18_59 x := fun _ => rfl
  have q60 : ∀ x, r19_60 x = r18_60 x := fun _ => rfl
  have q61 : ∀ x, r19_61 x = r18_61 x := fun _ => rfl
  have q62 : ∀ x, r19_62 x = r18_62 x := fun _ => rfl
  have q63 : ∀ x, r19_63 x = r18_63 x := fun _ => rfl
  have p0 : ∀ a b c d e f g h, r21_0 a b c d e f g h = r20_0 a b c d e f g h := fun _ _ _ _ _ _ _ _ => rfl
  have p1 : ∀ a b c d e f g h, r21_1 a b c d e f g h = r20_1 a b c d e f g h := fun _ _ _ _ _ _ _ _ => rfl
  have p2 : ∀ a b c d e f g h, r21_2 a b c d e f g h = r20_2 a b c d e f g h := fun _ _ _ _ _ _ _ _ => rfl
  have p3 : ∀ a b c d e f g h, r21_3 a b c d e f g h = r20_3 a b c d e f g h := fun _ _ _ _ _ _ _ _ => rfl
  have p4 : ∀ a b c d e f g h, r21_4 a b c d e f g h = r20_4 a b c d e f g h := fun _ _ _ _ _ _ _ _ => rfl
  have p5 : ∀ a b c d e f g h, r21_5 a b c d e f g h = r20_5 a b c d e f g h := fun _ _ _ _ _ _ _ _ => rfl
  have p6 : ∀ a b c d e f g h, r21_6 a b c d e f g h = r20_6 a b c d e f g h := fun _ _ _ _ _ _ _ _ => rfl
  have p7 : ∀ a b c d e f g h, r21_7 a b c d e f g h = r20_7 a b c d e f g h := fun _ _ _ _ _ _ _ _ => rfl
  simp only [T10, Tr.sat_br, Tr.sat_ok, Tr.sat_no, tvb, c0, c1, c2, c3, c4, c5, c6, c7, d0, d1, d2, d3, d4, d5, d6, d7, d8, d9, d10, d11, d12, d13, d14, d15, d16, d17, d18, d19, d20, d21, d22, d23, d24, d25, d26, d27, d28, d29, d30, d31, d32, d33, d34, d35, d36, d37, d38, d39, d40, d41, d42, d43, d44, d45, d46, d47, d48, d49, d50, d51, d52, d53, d54, d55, d56, d57, d58, d59, d60, d61, d62, d63, q0, q1, q2, q3, q4, q5, q6, q7, q8, q9, q10, q11, q12, q13, q14, q15, q16, q17, q18, q19, q20, q21, q22, q23, q24, q25, q26, q27, q28, q29, q30, q31, q32, q33, q34, q35, q36, q37, q38, q39, q40, q41, q42, q43, q44, q45, q46, q47, q48, q49, q50, q51, q52, q53, q54, q55, q56, q57, q58, q59, q60, q61, q62, q63, p0, p1, p2, p3, p4, p5, p6, p7, beq_self_eq_true, Bool.and_self]
  simp
end Go.Proofs.Ytgohhgkonbenbaa.G
