import Derived.Test.YthbiajoionockaaM4
import Derived.Test.YthbiajoionockaaM3
import Derived.Test.YthbiajoionockaaChecked
import Derived.KernelRfl
/-! Functions, lowered. -/
namespace Go.AM
open Go
set_option linter.unusedVariables false
set_option maxRecDepth 20000
def C_key_text_k1 : LCode := (.block 1 (.sq [⟨some 12, none, .mv false (.t 3)⟩,
          ⟨some 13, none, .bin .add .sc (.t 12) (.c (.int .i64 1))⟩,
          ⟨some 3, none, .mv true (.t 13)⟩]))
theorem u_C_key_text_k1 {C : CallW} {P : Program} {rd : Bool} {is : List Item} {fr : Fr} {σ : St} {K : KC} : runC C P rd C_key_text_k1 is fr σ K = runC C P rd (.block 1 (.sq [⟨some 12, none, .mv false (.t 3)⟩,
          ⟨some 13, none, .bin .add .sc (.t 12) (.c (.int .i64 1))⟩,
          ⟨some 3, none, .mv true (.t 13)⟩])) is fr σ K := (rfl)
def C_key_text_k2 : LCode := (.seq (.seq (.sq [⟨some 4, none, .mv false (.t 3)⟩,
        ⟨some 5, none, .bin .lss .sc (.t 4) (.c (.int .i64 16))⟩,
        ⟨some 6, none, .mv false (.t 5)⟩,
        ⟨some 7, some (6, true), .mv false (.t 3)⟩,
        ⟨some 8, some (6, true), .ixa (.arr 16 1) (.t 1) (.t 7)⟩,
        ⟨some 9, some (6, true), .load1 false (.t 8)⟩,
        ⟨some 10, some (6, true), .bin .neq .sc (.t 9) (.c (.int .u8 0))⟩,
        ⟨some 11, none, .pick (.t 6) (.t 10) (.c (.bool false))⟩]) (.cond (.t 11) .skip (.exit 0))) C_key_text_k1)
theorem u_C_key_text_k2 {C : CallW} {P : Program} {rd : Bool} {is : List Item} {fr : Fr} {σ : St} {K : KC} : runC C P rd C_key_text_k2 is fr σ K = runC C P rd (.seq (.seq (.sq [⟨some 4, none, .mv false (.t 3)⟩,
        ⟨some 5, none, .bin .lss .sc (.t 4) (.c (.int .i64 16))⟩,
        ⟨some 6, none, .mv false (.t 5)⟩,
        ⟨some 7, some (6, true), .mv false (.t 3)⟩,
        ⟨some 8, some (6, true), .ixa (.arr 16 1) (.t 1) (.t 7)⟩,
        ⟨some 9, some (6, true), .load1 false (.t 8)⟩,
        ⟨some 10, some (6, true), .bin .neq .sc (.t 9) (.c (.int .u8 0))⟩,
        ⟨some 11, none, .pick (.t 6) (.t 10) (.c (.bool false))⟩]) (.cond (.t 11) .skip (.exit 0))) C_key_text_k1) is fr σ K := (rfl)
def C_key_text_k3 : LCode := (.seq (.sq [⟨some 14, none, .mv false (.t 3)⟩,
    ⟨some 15, none, .slc (.arr 16 1) (.t 1) none (some (.t 14)) none⟩,
    ⟨some 16, none, .conv .ofBytes (.t 15)⟩,
    ⟨some 2, none, .mv true (.t 16)⟩]) .ret)
theorem u_C_key_text_k3 {C : CallW} {P : Program} {rd : Bool} {is : List Item} {fr : Fr} {σ : St} {K : KC} : runC C P rd C_key_text_k3 is fr σ K = runC C P rd (.seq (.sq [⟨some 14, none, .mv false (.t 3)⟩,
    ⟨some 15, none, .slc (.arr 16 1) (.t 1) none (some (.t 14)) none⟩,
    ⟨some 16, none, .conv .ofBytes (.t 15)⟩,
    ⟨some 2, none, .mv true (.t 16)⟩]) .ret) is fr σ K := (rfl)
def C_key_text_k4 : LCode := (.seq (.block 0 (.loop [false, true, false, true, false, false, false, false, false, false, false, false, false, false, false, false, false] C_key_text_k2)) C_key_text_k3)
theorem u_C_key_text_k4 {C : CallW} {P : Program} {rd : Bool} {is : List Item} {fr : Fr} {σ : St} {K : KC} : runC C P rd C_key_text_k4 is fr σ K = runC C P rd (.seq (.block 0 (.loop [false, true, false, true, false, false, false, false, false, false, false, false, false, false, false, false, false] C_key_text_k2)) C_key_text_k3) is fr σ K := (rfl)
def C_key_text : LFn :=
  ⟨17, [.t 2], (.seq (.sq [⟨some 1, none, .box false false (.t 0)⟩,
    ⟨some 2, none, .mv true (.c (.str []))⟩]) (.seq (.sq [⟨some 3, none, .mv true (.c (.int .i64 0))⟩]) C_key_text_k4))⟩

def C_key_Of_k1 (f_strings_IndexByte : FuncId) : LCode := (.seq (.sq [⟨some 17, none, .loadA 16 (.t 4)⟩,
      ⟨none, none, .store 16 (.t 2) (.t 17)⟩,
      ⟨some 3, none, .mv true (.c (.int .i64 1))⟩]) .ret)
theorem u_C_key_Of_k1 {C : CallW} {P : Program} {rd : Bool} {is : List Item} {fr : Fr} {σ : St} {K : KC} (f_strings_IndexByte : FuncId) : runC C P rd (C_key_Of_k1 f_strings_IndexByte) is fr σ K = runC C P rd (.seq (.sq [⟨some 17, none, .loadA 16 (.t 4)⟩,
      ⟨none, none, .store 16 (.t 2) (.t 17)⟩,
      ⟨some 3, none, .mv true (.c (.int .i64 1))⟩]) .ret) is fr σ K := (rfl)
def C_key_Of_k2 (f_strings_IndexByte : FuncId) : LCode := (.seq (.sq [⟨some 21, none, .loadA 16 (.t 4)⟩,
    ⟨none, none, .store 16 (.t 2) (.t 21)⟩,
    ⟨some 3, none, .mv true (.c (.int .i64 0))⟩]) .ret)
theorem u_C_key_Of_k2 {C : CallW} {P : Program} {rd : Bool} {is : List Item} {fr : Fr} {σ : St} {K : KC} (f_strings_IndexByte : FuncId) : runC C P rd (C_key_Of_k2 f_strings_IndexByte) is fr σ K = runC C P rd (.seq (.sq [⟨some 21, none, .loadA 16 (.t 4)⟩,
    ⟨none, none, .store 16 (.t 2) (.t 21)⟩,
    ⟨some 3, none, .mv true (.c (.int .i64 0))⟩]) .ret) is fr σ K := (rfl)
def C_key_Of_k3 (f_strings_IndexByte : FuncId) : LCode := (.seq (.sq [⟨some 18, none, .slc (.arr 16 1) (.t 4) none none none⟩,
    ⟨some 19, none, .mv false (.t 0)⟩,
    ⟨some 20, none, .cpy ⟨1, false, 1, (.s (.int .u8 0))⟩ true (.t 18) (.t 19)⟩]) (C_key_Of_k2 f_strings_IndexByte))
theorem u_C_key_Of_k3 {C : CallW} {P : Program} {rd : Bool} {is : List Item} {fr : Fr} {σ : St} {K : KC} (f_strings_IndexByte : FuncId) : runC C P rd (C_key_Of_k3 f_strings_IndexByte) is fr σ K = runC C P rd (.seq (.sq [⟨some 18, none, .slc (.arr 16 1) (.t 4) none none none⟩,
    ⟨some 19, none, .mv false (.t 0)⟩,
    ⟨some 20, none, .cpy ⟨1, false, 1, (.s (.int .u8 0))⟩ true (.t 18) (.t 19)⟩]) (C_key_Of_k2 f_strings_IndexByte)) is fr σ K := (rfl)
def C_key_Of_k4 (f_strings_IndexByte : FuncId) : LCode := (.seq (.seq (.sq [⟨some 5, none, .mv false (.t 0)⟩,
    ⟨some 6, none, .bin .eql .sc (.t 5) (.c (.str []))⟩,
    ⟨some 7, none, .mv false (.t 6)⟩,
    ⟨some 8, some (7, false), .mv false (.t 0)⟩,
    ⟨some 9, some (7, false), .len .str (.t 8)⟩,
    ⟨some 10, some (7, false), .bin .gtr .sc (.t 9) (.c (.int .i64 16))⟩,
    ⟨some 11, none, .pick (.t 7) (.c (.bool true)) (.t 10)⟩,
    ⟨some 12, none, .mv false (.t 11)⟩,
    ⟨some 13, some (12, false), .mv false (.t 0)⟩,
    ⟨some 14, some (12, false), .call (.f f_strings_IndexByte) [(.t 13), (.c (.int .u8 0))]⟩,
    ⟨some 15, some (12, false), .bin .geq .sc (.t 14) (.c (.int .i64 0))⟩,
    ⟨some 16, none, .pick (.t 12) (.c (.bool true)) (.t 15)⟩]) (.cond (.t 16) (C_key_Of_k1 f_strings_IndexByte) .skip)) (C_key_Of_k3 f_strings_IndexByte))
theorem u_C_key_Of_k4 {C : CallW} {P : Program} {rd : Bool} {is : List Item} {fr : Fr} {σ : St} {K : KC} (f_strings_IndexByte : FuncId) : runC C P rd (C_key_Of_k4 f_strings_IndexByte) is fr σ K = runC C P rd (.seq (.seq (.sq [⟨some 5, none, .mv false (.t 0)⟩,
    ⟨some 6, none, .bin .eql .sc (.t 5) (.c (.str []))⟩,
    ⟨some 7, none, .mv false (.t 6)⟩,
    ⟨some 8, some (7, false), .mv false (.t 0)⟩,
    ⟨some 9, some (7, false), .len .str (.t 8)⟩,
    ⟨some 10, some (7, false), .bin .gtr .sc (.t 9) (.c (.int .i64 16))⟩,
    ⟨some 11, none, .pick (.t 7) (.c (.bool true)) (.t 10)⟩,
    ⟨some 12, none, .mv false (.t 11)⟩,
    ⟨some 13, some (12, false), .mv false (.t 0)⟩,
    ⟨some 14, some (12, false), .call (.f f_strings_IndexByte) [(.t 13), (.c (.int .u8 0))]⟩,
    ⟨some 15, some (12, false), .bin .geq .sc (.t 14) (.c (.int .i64 0))⟩,
    ⟨some 16, none, .pick (.t 12) (.c (.bool true)) (.t 15)⟩]) (.cond (.t 16) (C_key_Of_k1 f_strings_IndexByte) .skip)) (C_key_Of_k3 f_strings_IndexByte)) is fr σ K := (rfl)
def C_key_Of (f_strings_IndexByte : FuncId) : LFn :=
  ⟨22, [.many 2 16, .t 3], (.seq (.sq [⟨some 2, none, .alloc false zk⟩,
    ⟨some 3, none, .mv true (.c (.int .i64 0))⟩]) (.seq (.sq [⟨some 4, none, .alloc false zk⟩]) (C_key_Of_k4 f_strings_IndexByte)))⟩

def C_key_Good_k1 (f_key_text f_key_Of : FuncId) : LCode := (.seq (.sq [⟨some 11, none, .mv false (.t 4)⟩,
    ⟨some 12, none, .bin .eql .sc (.t 11) (.c (.int .i64 0))⟩,
    ⟨some 13, none, .mv false (.t 12)⟩,
    ⟨some 14, some (13, true), .loadA 16 (.t 3)⟩,
    ⟨some 15, some (13, true), .loadA 16 (.t 1)⟩,
    ⟨some 16, some (13, true), .bin .eql (.leaf lk) (.t 14) (.t 15)⟩,
    ⟨some 17, none, .pick (.t 13) (.t 16) (.c (.bool false))⟩,
    ⟨some 2, none, .mv true (.t 17)⟩]) .ret)
theorem u_C_key_Good_k1 {C : CallW} {P : Program} {rd : Bool} {is : List Item} {fr : Fr} {σ : St} {K : KC} (f_key_text f_key_Of : FuncId) : runC C P rd (C_key_Good_k1 f_key_text f_key_Of) is fr σ K = runC C P rd (.seq (.sq [⟨some 11, none, .mv false (.t 4)⟩,
    ⟨some 12, none, .bin .eql .sc (.t 11) (.c (.int .i64 0))⟩,
    ⟨some 13, none, .mv false (.t 12)⟩,
    ⟨some 14, some (13, true), .loadA 16 (.t 3)⟩,
    ⟨some 15, some (13, true), .loadA 16 (.t 1)⟩,
    ⟨some 16, some (13, true), .bin .eql (.leaf lk) (.t 14) (.t 15)⟩,
    ⟨some 17, none, .pick (.t 13) (.t 16) (.c (.bool false))⟩,
    ⟨some 2, none, .mv true (.t 17)⟩]) .ret) is fr σ K := (rfl)
def C_key_Good_k2 (f_key_text f_key_Of : FuncId) : LCode := (.seq (.sq [⟨some 6, none, .loadA 16 (.t 1)⟩,
    ⟨some 7, none, .call (.f f_key_text) [(.t 6)]⟩,
    ⟨some 8, none, .call (.f f_key_Of) [(.t 7)]⟩,
    ⟨some 5, none, .mv false (.t 8)⟩,
    ⟨some 9, none, .ext (.t 5) 0⟩,
    ⟨some 10, none, .ext (.t 5) 1⟩,
    ⟨some 3, none, .alloc false zk⟩,
    ⟨none, none, .store 16 (.t 3) (.t 9)⟩,
    ⟨some 4, none, .mv true (.t 10)⟩]) (C_key_Good_k1 f_key_text f_key_Of))
theorem u_C_key_Good_k2 {C : CallW} {P : Program} {rd : Bool} {is : List Item} {fr : Fr} {σ : St} {K : KC} (f_key_text f_key_Of : FuncId) : runC C P rd (C_key_Good_k2 f_key_text f_key_Of) is fr σ K = runC C P rd (.seq (.sq [⟨some 6, none, .loadA 16 (.t 1)⟩,
    ⟨some 7, none, .call (.f f_key_text) [(.t 6)]⟩,
    ⟨some 8, none, .call (.f f_key_Of) [(.t 7)]⟩,
    ⟨some 5, none, .mv false (.t 8)⟩,
    ⟨some 9, none, .ext (.t 5) 0⟩,
    ⟨some 10, none, .ext (.t 5) 1⟩,
    ⟨some 3, none, .alloc false zk⟩,
    ⟨none, none, .store 16 (.t 3) (.t 9)⟩,
    ⟨some 4, none, .mv true (.t 10)⟩]) (C_key_Good_k1 f_key_text f_key_Of)) is fr σ K := (rfl)
def C_key_Good (f_key_text f_key_Of : FuncId) : LFn :=
  ⟨18, [.t 2], (.seq (.sq [⟨some 1, none, .box false false (.t 0)⟩,
    ⟨some 2, none, .mv true (.c (.bool false))⟩]) (C_key_Good_k2 f_key_text f_key_Of))⟩

def C_key_Cmp_k1 (f_bytes_Compare : FuncId) : LCode := (.seq (.tree (.rd ⟨some 5, none, .slc (.arr 16 1) (.t 2) none none none⟩ 0 false (.rd ⟨some 6, none, .slc (.arr 16 1) (.t 3) none none none⟩ 1 false (.mv ⟨some 7, none, .call (.f f_bytes_Compare) [(.t 5), (.t 6)]⟩ [0, 1] (.mv ⟨some 4, none, .mv true (.t 7)⟩ [0, 1, 2] .done .stop) .stop)))) .ret)
theorem u_C_key_Cmp_k1 {C : CallW} {P : Program} {rd : Bool} {is : List Item} {fr : Fr} {σ : St} {K : KC} (f_bytes_Compare : FuncId) : runC C P rd (C_key_Cmp_k1 f_bytes_Compare) is fr σ K = runC C P rd (.seq (.tree (.rd ⟨some 5, none, .slc (.arr 16 1) (.t 2) none none none⟩ 0 false (.rd ⟨some 6, none, .slc (.arr 16 1) (.t 3) none none none⟩ 1 false (.mv ⟨some 7, none, .call (.f f_bytes_Compare) [(.t 5), (.t 6)]⟩ [0, 1] (.mv ⟨some 4, none, .mv true (.t 7)⟩ [0, 1, 2] .done .stop) .stop)))) .ret) is fr σ K := (rfl)
def C_key_Cmp (f_bytes_Compare : FuncId) : LFn :=
  ⟨8, [.t 4], (.seq (.sq [⟨some 2, none, .box false false (.t 0)⟩,
    ⟨some 3, none, .box false false (.t 1)⟩,
    ⟨some 4, none, .mv true (.c (.int .i64 0))⟩]) (C_key_Cmp_k1 f_bytes_Compare))⟩

def C_bytes_Compare_k1 (f_internal_bytealg_Compare : FuncId) : LCode := (.seq (.sq [⟨some 5, none, .mv true (.t 0)⟩,
    ⟨some 6, none, .mv true (.t 1)⟩,
    ⟨some 7, none, .call (.f f_internal_bytealg_Compare) [(.t 5), (.t 6)]⟩,
    ⟨some 4, none, .mv true (.t 7)⟩]) .ret)
theorem u_C_bytes_Compare_k1 {C : CallW} {P : Program} {rd : Bool} {is : List Item} {fr : Fr} {σ : St} {K : KC} (f_internal_bytealg_Compare : FuncId) : runC C P rd (C_bytes_Compare_k1 f_internal_bytealg_Compare) is fr σ K = runC C P rd (.seq (.sq [⟨some 5, none, .mv true (.t 0)⟩,
    ⟨some 6, none, .mv true (.t 1)⟩,
    ⟨some 7, none, .call (.f f_internal_bytealg_Compare) [(.t 5), (.t 6)]⟩,
    ⟨some 4, none, .mv true (.t 7)⟩]) .ret) is fr σ K := (rfl)
def C_bytes_Compare (f_internal_bytealg_Compare : FuncId) : LFn :=
  ⟨8, [.t 4], (.seq (.sq [⟨some 4, none, .mv true (.c (.int .i64 0))⟩]) (C_bytes_Compare_k1 f_internal_bytealg_Compare))⟩

def C_strings_IndexByte_k1 (f_internal_stringslite_IndexByte : FuncId) : LCode := (.seq (.sq [⟨some 5, none, .mv false (.t 0)⟩,
    ⟨some 6, none, .mv false (.t 1)⟩,
    ⟨some 7, none, .call (.f f_internal_stringslite_IndexByte) [(.t 5), (.t 6)]⟩,
    ⟨some 4, none, .mv true (.t 7)⟩]) .ret)
theorem u_C_strings_IndexByte_k1 {C : CallW} {P : Program} {rd : Bool} {is : List Item} {fr : Fr} {σ : St} {K : KC} (f_internal_stringslite_IndexByte : FuncId) : runC C P rd (C_strings_IndexByte_k1 f_internal_stringslite_IndexByte) is fr σ K = runC C P rd (.seq (.sq [⟨some 5, none, .mv false (.t 0)⟩,
    ⟨some 6, none, .mv false (.t 1)⟩,
    ⟨some 7, none, .call (.f f_internal_stringslite_IndexByte) [(.t 5), (.t 6)]⟩,
    ⟨some 4, none, .mv true (.t 7)⟩]) .ret) is fr σ K := (rfl)
def C_strings_IndexByte (f_internal_stringslite_IndexByte : FuncId) : LFn :=
  ⟨8, [.t 4], (.seq (.sq [⟨some 4, none, .mv true (.c (.int .i64 0))⟩]) (C_strings_IndexByte_k1 f_internal_stringslite_IndexByte))⟩

def C_internal_stringslite_IndexByte_k1 (f_internal_bytealg_IndexByteString : FuncId) : LCode := (.seq (.sq [⟨some 5, none, .mv false (.t 0)⟩,
    ⟨some 6, none, .mv false (.t 1)⟩,
    ⟨some 7, none, .call (.f f_internal_bytealg_IndexByteString) [(.t 5), (.t 6)]⟩,
    ⟨some 4, none, .mv true (.t 7)⟩]) .ret)
theorem u_C_internal_stringslite_IndexByte_k1 {C : CallW} {P : Program} {rd : Bool} {is : List Item} {fr : Fr} {σ : St} {K : KC} (f_internal_bytealg_IndexByteString : FuncId) : runC C P rd (C_internal_stringslite_IndexByte_k1 f_internal_bytealg_IndexByteString) is fr σ K = runC C P rd (.seq (.sq [⟨some 5, none, .mv false (.t 0)⟩,
    ⟨some 6, none, .mv false (.t 1)⟩,
    ⟨some 7, none, .call (.f f_internal_bytealg_IndexByteString) [(.t 5), (.t 6)]⟩,
    ⟨some 4, none, .mv true (.t 7)⟩]) .ret) is fr σ K := (rfl)
def C_internal_stringslite_IndexByte (f_internal_bytealg_IndexByteString : FuncId) : LFn :=
  ⟨8, [.t 4], (.seq (.sq [⟨some 4, none, .mv true (.c (.int .i64 0))⟩]) (C_internal_stringslite_IndexByte_k1 f_internal_bytealg_IndexByteString))⟩

def C_hourglassref10_Of_k1 : LCode := (.seq (.sq [⟨some 15, none, .loadA 16 (.t 4)⟩,
      ⟨none, none, .store 16 (.t 2) (.t 15)⟩,
      ⟨some 3, none, .mv true (.c (.bool false))⟩]) .ret)
theorem u_C_hourglassref10_Of_k1 {C : CallW} {P : Program} {rd : Bool} {is : List Item} {fr : Fr} {σ : St} {K : KC} : runC C P rd C_hourglassref10_Of_k1 is fr σ K = runC C P rd (.seq (.sq [⟨some 15, none, .loadA 16 (.t 4)⟩,
      ⟨none, none, .store 16 (.t 2) (.t 15)⟩,
      ⟨some 3, none, .mv true (.c (.bool false))⟩]) .ret) is fr σ K := (rfl)
def C_hourglassref10_Of_k2 : LCode := (.seq (.sq [⟨some 26, none, .build zk []⟩,
            ⟨none, none, .store 16 (.t 2) (.t 26)⟩,
            ⟨some 3, none, .mv true (.c (.bool false))⟩]) .ret)
theorem u_C_hourglassref10_Of_k2 {C : CallW} {P : Program} {rd : Bool} {is : List Item} {fr : Fr} {σ : St} {K : KC} : runC C P rd C_hourglassref10_Of_k2 is fr σ K = runC C P rd (.seq (.sq [⟨some 26, none, .build zk []⟩,
            ⟨none, none, .store 16 (.t 2) (.t 26)⟩,
            ⟨some 3, none, .mv true (.c (.bool false))⟩]) .ret) is fr σ K := (rfl)
def C_hourglassref10_Of_k3 : LCode := (.sq [⟨some 27, none, .mv false (.t 5)⟩,
          ⟨some 28, none, .mv false (.t 0)⟩,
          ⟨some 29, none, .mv false (.t 5)⟩,
          ⟨some 30, none, .ixs (.t 28) (.t 29)⟩,
          ⟨some 31, none, .ixa (.arr 16 1) (.t 4) (.t 27)⟩,
          ⟨none, none, .store 1 (.t 31) (.t 30)⟩])
theorem u_C_hourglassref10_Of_k3 {C : CallW} {P : Program} {rd : Bool} {is : List Item} {fr : Fr} {σ : St} {K : KC} : runC C P rd C_hourglassref10_Of_k3 is fr σ K = runC C P rd (.sq [⟨some 27, none, .mv false (.t 5)⟩,
          ⟨some 28, none, .mv false (.t 0)⟩,
          ⟨some 29, none, .mv false (.t 5)⟩,
          ⟨some 30, none, .ixs (.t 28) (.t 29)⟩,
          ⟨some 31, none, .ixa (.arr 16 1) (.t 4) (.t 27)⟩,
          ⟨none, none, .store 1 (.t 31) (.t 30)⟩]) is fr σ K := (rfl)
def C_hourglassref10_Of_k4 : LCode := (.sq [⟨some 20, none, .mv false (.t 5)⟩,
        ⟨some 21, none, .bin .add .sc (.t 20) (.c (.int .i64 1))⟩,
        ⟨some 5, none, .mv true (.t 21)⟩])
theorem u_C_hourglassref10_Of_k4 {C : CallW} {P : Program} {rd : Bool} {is : List Item} {fr : Fr} {σ : St} {K : KC} : runC C P rd C_hourglassref10_Of_k4 is fr σ K = runC C P rd (.sq [⟨some 20, none, .mv false (.t 5)⟩,
        ⟨some 21, none, .bin .add .sc (.t 20) (.c (.int .i64 1))⟩,
        ⟨some 5, none, .mv true (.t 21)⟩]) is fr σ K := (rfl)
def C_hourglassref10_Of_k5 : LCode := (.seq (.block 1 (.seq (.seq (.sq [⟨some 22, none, .mv false (.t 0)⟩,
          ⟨some 23, none, .mv false (.t 5)⟩,
          ⟨some 24, none, .ixs (.t 22) (.t 23)⟩,
          ⟨some 25, none, .bin .eql .sc (.t 24) (.c (.int .u8 0))⟩]) (.cond (.t 25) C_hourglassref10_Of_k2 .skip)) C_hourglassref10_Of_k3)) C_hourglassref10_Of_k4)
theorem u_C_hourglassref10_Of_k5 {C : CallW} {P : Program} {rd : Bool} {is : List Item} {fr : Fr} {σ : St} {K : KC} : runC C P rd C_hourglassref10_Of_k5 is fr σ K = runC C P rd (.seq (.block 1 (.seq (.seq (.sq [⟨some 22, none, .mv false (.t 0)⟩,
          ⟨some 23, none, .mv false (.t 5)⟩,
          ⟨some 24, none, .ixs (.t 22) (.t 23)⟩,
          ⟨some 25, none, .bin .eql .sc (.t 24) (.c (.int .u8 0))⟩]) (.cond (.t 25) C_hourglassref10_Of_k2 .skip)) C_hourglassref10_Of_k3)) C_hourglassref10_Of_k4) is fr σ K := (rfl)
def C_hourglassref10_Of_k6 : LCode := (.seq (.seq (.sq [⟨some 16, none, .mv false (.t 5)⟩,
        ⟨some 17, none, .mv false (.t 0)⟩,
        ⟨some 18, none, .len .str (.t 17)⟩,
        ⟨some 19, none, .bin .lss .sc (.t 16) (.t 18)⟩]) (.cond (.t 19) .skip (.exit 0))) C_hourglassref10_Of_k5)
theorem u_C_hourglassref10_Of_k6 {C : CallW} {P : Program} {rd : Bool} {is : List Item} {fr : Fr} {σ : St} {K : KC} : runC C P rd C_hourglassref10_Of_k6 is fr σ K = runC C P rd (.seq (.seq (.sq [⟨some 16, none, .mv false (.t 5)⟩,
        ⟨some 17, none, .mv false (.t 0)⟩,
        ⟨some 18, none, .len .str (.t 17)⟩,
        ⟨some 19, none, .bin .lss .sc (.t 16) (.t 18)⟩]) (.cond (.t 19) .skip (.exit 0))) C_hourglassref10_Of_k5) is fr σ K := (rfl)
def C_hourglassref10_Of_k7 : LCode := (.block 0 (.loop [true, false, true, false, true, true, false, false, false, false, false, false, false, false, false, false, false, false, false, false, false, false, false, false, false, false, false, false, false, false, false, false, false] C_hourglassref10_Of_k6))
theorem u_C_hourglassref10_Of_k7 {C : CallW} {P : Program} {rd : Bool} {is : List Item} {fr : Fr} {σ : St} {K : KC} : runC C P rd C_hourglassref10_Of_k7 is fr σ K = runC C P rd (.block 0 (.loop [true, false, true, false, true, true, false, false, false, false, false, false, false, false, false, false, false, false, false, false, false, false, false, false, false, false, false, false, false, false, false, false, false] C_hourglassref10_Of_k6)) is fr σ K := (rfl)
def C_hourglassref10_Of_k8 : LCode := (.seq (.sq [⟨some 32, none, .loadA 16 (.t 4)⟩,
    ⟨none, none, .store 16 (.t 2) (.t 32)⟩,
    ⟨some 3, none, .mv true (.c (.bool true))⟩]) .ret)
theorem u_C_hourglassref10_Of_k8 {C : CallW} {P : Program} {rd : Bool} {is : List Item} {fr : Fr} {σ : St} {K : KC} : runC C P rd C_hourglassref10_Of_k8 is fr σ K = runC C P rd (.seq (.sq [⟨some 32, none, .loadA 16 (.t 4)⟩,
    ⟨none, none, .store 16 (.t 2) (.t 32)⟩,
    ⟨some 3, none, .mv true (.c (.bool true))⟩]) .ret) is fr σ K := (rfl)
def C_hourglassref10_Of_k9 : LCode := (.seq (.seq (.sq [⟨some 7, none, .mv false (.t 0)⟩,
    ⟨some 8, none, .len .str (.t 7)⟩,
    ⟨some 9, none, .bin .lss .sc (.t 8) (.c (.int .i64 1))⟩,
    ⟨some 10, none, .mv false (.t 9)⟩,
    ⟨some 11, some (10, false), .mv false (.t 0)⟩,
    ⟨some 12, some (10, false), .len .str (.t 11)⟩,
    ⟨some 13, some (10, false), .bin .gtr .sc (.t 12) (.c (.int .i64 16))⟩,
    ⟨some 14, none, .pick (.t 10) (.c (.bool true)) (.t 13)⟩]) (.cond (.t 14) C_hourglassref10_Of_k1 .skip)) (.seq (.seq (.sq [⟨some 5, none, .mv true (.c (.int .i64 0))⟩]) C_hourglassref10_Of_k7) C_hourglassref10_Of_k8))
theorem u_C_hourglassref10_Of_k9 {C : CallW} {P : Program} {rd : Bool} {is : List Item} {fr : Fr} {σ : St} {K : KC} : runC C P rd C_hourglassref10_Of_k9 is fr σ K = runC C P rd (.seq (.seq (.sq [⟨some 7, none, .mv false (.t 0)⟩,
    ⟨some 8, none, .len .str (.t 7)⟩,
    ⟨some 9, none, .bin .lss .sc (.t 8) (.c (.int .i64 1))⟩,
    ⟨some 10, none, .mv false (.t 9)⟩,
    ⟨some 11, some (10, false), .mv false (.t 0)⟩,
    ⟨some 12, some (10, false), .len .str (.t 11)⟩,
    ⟨some 13, some (10, false), .bin .gtr .sc (.t 12) (.c (.int .i64 16))⟩,
    ⟨some 14, none, .pick (.t 10) (.c (.bool true)) (.t 13)⟩]) (.cond (.t 14) C_hourglassref10_Of_k1 .skip)) (.seq (.seq (.sq [⟨some 5, none, .mv true (.c (.int .i64 0))⟩]) C_hourglassref10_Of_k7) C_hourglassref10_Of_k8)) is fr σ K := (rfl)
def C_hourglassref10_Of_k10 : LCode := (.seq (.sq [⟨some 6, none, .build zk []⟩,
    ⟨some 4, none, .alloc false zk⟩,
    ⟨none, none, .store 16 (.t 4) (.t 6)⟩]) C_hourglassref10_Of_k9)
theorem u_C_hourglassref10_Of_k10 {C : CallW} {P : Program} {rd : Bool} {is : List Item} {fr : Fr} {σ : St} {K : KC} : runC C P rd C_hourglassref10_Of_k10 is fr σ K = runC C P rd (.seq (.sq [⟨some 6, none, .build zk []⟩,
    ⟨some 4, none, .alloc false zk⟩,
    ⟨none, none, .store 16 (.t 4) (.t 6)⟩]) C_hourglassref10_Of_k9) is fr σ K := (rfl)
def C_hourglassref10_Of : LFn :=
  ⟨33, [.many 2 16, .t 3], (.seq (.sq [⟨some 2, none, .alloc false zk⟩,
    ⟨some 3, none, .mv true (.c (.bool false))⟩]) C_hourglassref10_Of_k10)⟩

def C_hourglassref10_Good_k1 : LCode := (.seq (.sq [⟨some 13, none, .mv false (.t 3)⟩]) (.cond (.t 13) (.seq (.sq [⟨some 2, none, .mv true (.c (.bool false))⟩]) .ret) .skip))
theorem u_C_hourglassref10_Good_k1 {C : CallW} {P : Program} {rd : Bool} {is : List Item} {fr : Fr} {σ : St} {K : KC} : runC C P rd C_hourglassref10_Good_k1 is fr σ K = runC C P rd (.seq (.sq [⟨some 13, none, .mv false (.t 3)⟩]) (.cond (.t 13) (.seq (.sq [⟨some 2, none, .mv true (.c (.bool false))⟩]) .ret) .skip)) is fr σ K := (rfl)
def C_hourglassref10_Good_k2 : LCode := (.sq [⟨some 7, none, .mv false (.t 4)⟩,
        ⟨some 8, none, .bin .add .sc (.t 7) (.c (.int .i64 1))⟩,
        ⟨some 4, none, .mv true (.t 8)⟩])
theorem u_C_hourglassref10_Good_k2 {C : CallW} {P : Program} {rd : Bool} {is : List Item} {fr : Fr} {σ : St} {K : KC} : runC C P rd C_hourglassref10_Good_k2 is fr σ K = runC C P rd (.sq [⟨some 7, none, .mv false (.t 4)⟩,
        ⟨some 8, none, .bin .add .sc (.t 7) (.c (.int .i64 1))⟩,
        ⟨some 4, none, .mv true (.t 8)⟩]) is fr σ K := (rfl)
def C_hourglassref10_Good_k3 : LCode := (.seq (.block 1 (.seq (.sq [⟨some 9, none, .mv false (.t 4)⟩,
          ⟨some 10, none, .ixa (.arr 16 1) (.t 1) (.t 9)⟩,
          ⟨some 11, none, .load1 false (.t 10)⟩,
          ⟨some 12, none, .bin .eql .sc (.t 11) (.c (.int .u8 0))⟩]) (.cond (.t 12) (.sq [⟨some 3, none, .mv true (.c (.bool true))⟩]) C_hourglassref10_Good_k1))) C_hourglassref10_Good_k2)
theorem u_C_hourglassref10_Good_k3 {C : CallW} {P : Program} {rd : Bool} {is : List Item} {fr : Fr} {σ : St} {K : KC} : runC C P rd C_hourglassref10_Good_k3 is fr σ K = runC C P rd (.seq (.block 1 (.seq (.sq [⟨some 9, none, .mv false (.t 4)⟩,
          ⟨some 10, none, .ixa (.arr 16 1) (.t 1) (.t 9)⟩,
          ⟨some 11, none, .load1 false (.t 10)⟩,
          ⟨some 12, none, .bin .eql .sc (.t 11) (.c (.int .u8 0))⟩]) (.cond (.t 12) (.sq [⟨some 3, none, .mv true (.c (.bool true))⟩]) C_hourglassref10_Good_k1))) C_hourglassref10_Good_k2) is fr σ K := (rfl)
def C_hourglassref10_Good_k4 : LCode := (.seq (.seq (.sq [⟨some 5, none, .mv false (.t 4)⟩,
        ⟨some 6, none, .bin .lss .sc (.t 5) (.c (.int .i64 16))⟩]) (.cond (.t 6) .skip (.exit 0))) C_hourglassref10_Good_k3)
theorem u_C_hourglassref10_Good_k4 {C : CallW} {P : Program} {rd : Bool} {is : List Item} {fr : Fr} {σ : St} {K : KC} : runC C P rd C_hourglassref10_Good_k4 is fr σ K = runC C P rd (.seq (.seq (.sq [⟨some 5, none, .mv false (.t 4)⟩,
        ⟨some 6, none, .bin .lss .sc (.t 5) (.c (.int .i64 16))⟩]) (.cond (.t 6) .skip (.exit 0))) C_hourglassref10_Good_k3) is fr σ K := (rfl)
def C_hourglassref10_Good_k5 : LCode := (.block 0 (.loop [false, true, false, true, true, false, false, false, false, false, false, false, false, false, false, false, false] C_hourglassref10_Good_k4))
theorem u_C_hourglassref10_Good_k5 {C : CallW} {P : Program} {rd : Bool} {is : List Item} {fr : Fr} {σ : St} {K : KC} : runC C P rd C_hourglassref10_Good_k5 is fr σ K = runC C P rd (.block 0 (.loop [false, true, false, true, true, false, false, false, false, false, false, false, false, false, false, false, false] C_hourglassref10_Good_k4)) is fr σ K := (rfl)
def C_hourglassref10_Good_k6 : LCode := (.seq (.sq [⟨some 14, none, .ixa (.arr 16 1) (.t 1) (.c (.int .i64 0))⟩,
    ⟨some 15, none, .load1 false (.t 14)⟩,
    ⟨some 16, none, .bin .neq .sc (.t 15) (.c (.int .u8 0))⟩,
    ⟨some 2, none, .mv true (.t 16)⟩]) .ret)
theorem u_C_hourglassref10_Good_k6 {C : CallW} {P : Program} {rd : Bool} {is : List Item} {fr : Fr} {σ : St} {K : KC} : runC C P rd C_hourglassref10_Good_k6 is fr σ K = runC C P rd (.seq (.sq [⟨some 14, none, .ixa (.arr 16 1) (.t 1) (.c (.int .i64 0))⟩,
    ⟨some 15, none, .load1 false (.t 14)⟩,
    ⟨some 16, none, .bin .neq .sc (.t 15) (.c (.int .u8 0))⟩,
    ⟨some 2, none, .mv true (.t 16)⟩]) .ret) is fr σ K := (rfl)
def C_hourglassref10_Good_k7 : LCode := (.seq (.sq [⟨some 3, none, .mv true (.c (.bool false))⟩]) (.seq (.seq (.sq [⟨some 4, none, .mv true (.c (.int .i64 0))⟩]) C_hourglassref10_Good_k5) C_hourglassref10_Good_k6))
theorem u_C_hourglassref10_Good_k7 {C : CallW} {P : Program} {rd : Bool} {is : List Item} {fr : Fr} {σ : St} {K : KC} : runC C P rd C_hourglassref10_Good_k7 is fr σ K = runC C P rd (.seq (.sq [⟨some 3, none, .mv true (.c (.bool false))⟩]) (.seq (.seq (.sq [⟨some 4, none, .mv true (.c (.int .i64 0))⟩]) C_hourglassref10_Good_k5) C_hourglassref10_Good_k6)) is fr σ K := (rfl)
def C_hourglassref10_Good : LFn :=
  ⟨17, [.t 2], (.seq (.sq [⟨some 1, none, .box false false (.t 0)⟩,
    ⟨some 2, none, .mv true (.c (.bool false))⟩]) C_hourglassref10_Good_k7)⟩

def C_hourglassref10_Cmp_k1 : LCode := (.seq (.tree (.rd ⟨some 17, none, .mv false (.t 5)⟩ 0 false (.rd ⟨some 18, none, .ixa (.arr 16 1) (.t 2) (.t 17)⟩ 1 false (.rd ⟨some 19, none, .load1 false (.t 18)⟩ 2 false (.rd ⟨some 20, none, .mv false (.t 5)⟩ 3 false (.rd ⟨some 21, none, .ixa (.arr 16 1) (.t 3) (.t 20)⟩ 4 false (.rd ⟨some 22, none, .load1 false (.t 21)⟩ 5 false (.rd ⟨some 23, none, .bin .gtr .sc (.t 19) (.t 22)⟩ 6 false .done)))))))) (.cond (.t 23) (.seq (.sq [⟨some 4, none, .mv true (.c (.int .i64 1))⟩]) .ret) .skip))
theorem u_C_hourglassref10_Cmp_k1 {C : CallW} {P : Program} {rd : Bool} {is : List Item} {fr : Fr} {σ : St} {K : KC} : runC C P rd C_hourglassref10_Cmp_k1 is fr σ K = runC C P rd (.seq (.tree (.rd ⟨some 17, none, .mv false (.t 5)⟩ 0 false (.rd ⟨some 18, none, .ixa (.arr 16 1) (.t 2) (.t 17)⟩ 1 false (.rd ⟨some 19, none, .load1 false (.t 18)⟩ 2 false (.rd ⟨some 20, none, .mv false (.t 5)⟩ 3 false (.rd ⟨some 21, none, .ixa (.arr 16 1) (.t 3) (.t 20)⟩ 4 false (.rd ⟨some 22, none, .load1 false (.t 21)⟩ 5 false (.rd ⟨some 23, none, .bin .gtr .sc (.t 19) (.t 22)⟩ 6 false .done)))))))) (.cond (.t 23) (.seq (.sq [⟨some 4, none, .mv true (.c (.int .i64 1))⟩]) .ret) .skip)) is fr σ K := (rfl)
def C_hourglassref10_Cmp_k2 : LCode := (.sq [⟨some 8, none, .mv false (.t 5)⟩,
        ⟨some 9, none, .bin .add .sc (.t 8) (.c (.int .i64 1))⟩,
        ⟨some 5, none, .mv true (.t 9)⟩])
theorem u_C_hourglassref10_Cmp_k2 {C : CallW} {P : Program} {rd : Bool} {is : List Item} {fr : Fr} {σ : St} {K : KC} : runC C P rd C_hourglassref10_Cmp_k2 is fr σ K = runC C P rd (.sq [⟨some 8, none, .mv false (.t 5)⟩,
        ⟨some 9, none, .bin .add .sc (.t 8) (.c (.int .i64 1))⟩,
        ⟨some 5, none, .mv true (.t 9)⟩]) is fr σ K := (rfl)
def C_hourglassref10_Cmp_k3 : LCode := (.seq (.block 1 (.seq (.seq (.tree (.rd ⟨some 10, none, .mv false (.t 5)⟩ 0 false (.rd ⟨some 11, none, .ixa (.arr 16 1) (.t 2) (.t 10)⟩ 1 false (.rd ⟨some 12, none, .load1 false (.t 11)⟩ 2 false (.rd ⟨some 13, none, .mv false (.t 5)⟩ 3 false (.rd ⟨some 14, none, .ixa (.arr 16 1) (.t 3) (.t 13)⟩ 4 false (.rd ⟨some 15, none, .load1 false (.t 14)⟩ 5 false (.rd ⟨some 16, none, .bin .lss .sc (.t 12) (.t 15)⟩ 6 false .done)))))))) (.cond (.t 16) (.seq (.sq [⟨some 4, none, .mv true (.c (.int .i64 (-1)))⟩]) .ret) .skip)) C_hourglassref10_Cmp_k1)) C_hourglassref10_Cmp_k2)
theorem u_C_hourglassref10_Cmp_k3 {C : CallW} {P : Program} {rd : Bool} {is : List Item} {fr : Fr} {σ : St} {K : KC} : runC C P rd C_hourglassref10_Cmp_k3 is fr σ K = runC C P rd (.seq (.block 1 (.seq (.seq (.tree (.rd ⟨some 10, none, .mv false (.t 5)⟩ 0 false (.rd ⟨some 11, none, .ixa (.arr 16 1) (.t 2) (.t 10)⟩ 1 false (.rd ⟨some 12, none, .load1 false (.t 11)⟩ 2 false (.rd ⟨some 13, none, .mv false (.t 5)⟩ 3 false (.rd ⟨some 14, none, .ixa (.arr 16 1) (.t 3) (.t 13)⟩ 4 false (.rd ⟨some 15, none, .load1 false (.t 14)⟩ 5 false (.rd ⟨some 16, none, .bin .lss .sc (.t 12) (.t 15)⟩ 6 false .done)))))))) (.cond (.t 16) (.seq (.sq [⟨some 4, none, .mv true (.c (.int .i64 (-1)))⟩]) .ret) .skip)) C_hourglassref10_Cmp_k1)) C_hourglassref10_Cmp_k2) is fr σ K := (rfl)
def C_hourglassref10_Cmp_k4 : LCode := (.seq (.seq (.sq [⟨some 6, none, .mv false (.t 5)⟩,
        ⟨some 7, none, .bin .lss .sc (.t 6) (.c (.int .i64 16))⟩]) (.cond (.t 7) .skip (.exit 0))) C_hourglassref10_Cmp_k3)
theorem u_C_hourglassref10_Cmp_k4 {C : CallW} {P : Program} {rd : Bool} {is : List Item} {fr : Fr} {σ : St} {K : KC} : runC C P rd C_hourglassref10_Cmp_k4 is fr σ K = runC C P rd (.seq (.seq (.sq [⟨some 6, none, .mv false (.t 5)⟩,
        ⟨some 7, none, .bin .lss .sc (.t 6) (.c (.int .i64 16))⟩]) (.cond (.t 7) .skip (.exit 0))) C_hourglassref10_Cmp_k3) is fr σ K := (rfl)
def C_hourglassref10_Cmp_k5 : LCode := (.block 0 (.loop [false, false, true, true, false, true, false, false, false, false, false, false, false, false, false, false, false, false, false, false, false, false, false, false] C_hourglassref10_Cmp_k4))
theorem u_C_hourglassref10_Cmp_k5 {C : CallW} {P : Program} {rd : Bool} {is : List Item} {fr : Fr} {σ : St} {K : KC} : runC C P rd C_hourglassref10_Cmp_k5 is fr σ K = runC C P rd (.block 0 (.loop [false, false, true, true, false, true, false, false, false, false, false, false, false, false, false, false, false, false, false, false, false, false, false, false] C_hourglassref10_Cmp_k4)) is fr σ K := (rfl)
def C_hourglassref10_Cmp_k6 : LCode := (.seq (.seq (.sq [⟨some 5, none, .mv true (.c (.int .i64 0))⟩]) C_hourglassref10_Cmp_k5) (.seq (.sq [⟨some 4, none, .mv true (.c (.int .i64 0))⟩]) .ret))
theorem u_C_hourglassref10_Cmp_k6 {C : CallW} {P : Program} {rd : Bool} {is : List Item} {fr : Fr} {σ : St} {K : KC} : runC C P rd C_hourglassref10_Cmp_k6 is fr σ K = runC C P rd (.seq (.seq (.sq [⟨some 5, none, .mv true (.c (.int .i64 0))⟩]) C_hourglassref10_Cmp_k5) (.seq (.sq [⟨some 4, none, .mv true (.c (.int .i64 0))⟩]) .ret)) is fr σ K := (rfl)
def C_hourglassref10_Cmp : LFn :=
  ⟨24, [.t 4], (.seq (.sq [⟨some 2, none, .box false false (.t 0)⟩,
    ⟨some 3, none, .box false false (.t 1)⟩,
    ⟨some 4, none, .mv true (.c (.int .i64 0))⟩]) C_hourglassref10_Cmp_k6)⟩

def C_hourglassref10_Within_k1 (f_hourglassref10_Cmp : FuncId) : LCode := (.seq (.sq [⟨some 7, none, .loadA 16 (.t 3)⟩,
    ⟨some 8, none, .loadA 16 (.t 4)⟩,
    ⟨some 9, none, .call (.f f_hourglassref10_Cmp) [(.t 7), (.t 8)]⟩,
    ⟨some 10, none, .bin .geq .sc (.t 9) (.c (.int .i64 0))⟩,
    ⟨some 11, none, .mv false (.t 10)⟩,
    ⟨some 12, some (11, true), .loadA 16 (.t 5)⟩,
    ⟨some 13, some (11, true), .build zk []⟩,
    ⟨some 14, some (11, true), .bin .eql (.leaf lk) (.t 12) (.t 13)⟩,
    ⟨some 15, some (11, true), .mv false (.t 14)⟩,
    ⟨some 16, some (15, false), .loadA 16 (.t 3)⟩,
    ⟨some 17, some (15, false), .loadA 16 (.t 5)⟩,
    ⟨some 18, some (15, false), .call (.f f_hourglassref10_Cmp) [(.t 16), (.t 17)]⟩,
    ⟨some 19, some (15, false), .bin .lss .sc (.t 18) (.c (.int .i64 0))⟩,
    ⟨some 20, some (11, true), .pick (.t 15) (.c (.bool true)) (.t 19)⟩,
    ⟨some 21, none, .pick (.t 11) (.t 20) (.c (.bool false))⟩,
    ⟨some 6, none, .mv true (.t 21)⟩]) .ret)
theorem u_C_hourglassref10_Within_k1 {C : CallW} {P : Program} {rd : Bool} {is : List Item} {fr : Fr} {σ : St} {K : KC} (f_hourglassref10_Cmp : FuncId) : runC C P rd (C_hourglassref10_Within_k1 f_hourglassref10_Cmp) is fr σ K = runC C P rd (.seq (.sq [⟨some 7, none, .loadA 16 (.t 3)⟩,
    ⟨some 8, none, .loadA 16 (.t 4)⟩,
    ⟨some 9, none, .call (.f f_hourglassref10_Cmp) [(.t 7), (.t 8)]⟩,
    ⟨some 10, none, .bin .geq .sc (.t 9) (.c (.int .i64 0))⟩,
    ⟨some 11, none, .mv false (.t 10)⟩,
    ⟨some 12, some (11, true), .loadA 16 (.t 5)⟩,
    ⟨some 13, some (11, true), .build zk []⟩,
    ⟨some 14, some (11, true), .bin .eql (.leaf lk) (.t 12) (.t 13)⟩,
    ⟨some 15, some (11, true), .mv false (.t 14)⟩,
    ⟨some 16, some (15, false), .loadA 16 (.t 3)⟩,
    ⟨some 17, some (15, false), .loadA 16 (.t 5)⟩,
    ⟨some 18, some (15, false), .call (.f f_hourglassref10_Cmp) [(.t 16), (.t 17)]⟩,
    ⟨some 19, some (15, false), .bin .lss .sc (.t 18) (.c (.int .i64 0))⟩,
    ⟨some 20, some (11, true), .pick (.t 15) (.c (.bool true)) (.t 19)⟩,
    ⟨some 21, none, .pick (.t 11) (.t 20) (.c (.bool false))⟩,
    ⟨some 6, none, .mv true (.t 21)⟩]) .ret) is fr σ K := (rfl)
def C_hourglassref10_Within (f_hourglassref10_Cmp : FuncId) : LFn :=
  ⟨22, [.t 6], (.seq (.sq [⟨some 3, none, .box false false (.t 0)⟩,
    ⟨some 4, none, .box false false (.t 1)⟩,
    ⟨some 5, none, .box false false (.t 2)⟩,
    ⟨some 6, none, .mv true (.c (.bool false))⟩]) (C_hourglassref10_Within_k1 f_hourglassref10_Cmp))⟩

def C_slices_Clone_Key_k1 : LCode := (.seq (.sq [⟨some 5, none, .bsl ⟨16, true, 16, (.agg zk)⟩ 0 []⟩,
    ⟨some 6, none, .mv false (.t 0)⟩,
    ⟨some 7, none, .app ⟨16, true, 16, (.agg zk)⟩ false (.t 5) (.t 6)⟩,
    ⟨some 2, none, .mv true (.t 7)⟩]) .ret)
theorem u_C_slices_Clone_Key_k1 {C : CallW} {P : Program} {rd : Bool} {is : List Item} {fr : Fr} {σ : St} {K : KC} : runC C P rd C_slices_Clone_Key_k1 is fr σ K = runC C P rd (.seq (.sq [⟨some 5, none, .bsl ⟨16, true, 16, (.agg zk)⟩ 0 []⟩,
    ⟨some 6, none, .mv false (.t 0)⟩,
    ⟨some 7, none, .app ⟨16, true, 16, (.agg zk)⟩ false (.t 5) (.t 6)⟩,
    ⟨some 2, none, .mv true (.t 7)⟩]) .ret) is fr σ K := (rfl)
def C_slices_Clone_Key_k2 : LCode := (.seq (.seq (.sq [⟨some 3, none, .mv false (.t 0)⟩,
    ⟨some 4, none, .bin .eql (.ref 1) (.t 3) (.c .nilS)⟩]) (.cond (.t 4) (.seq (.sq [⟨some 2, none, .mv true (.c .nilS)⟩]) .ret) .skip)) C_slices_Clone_Key_k1)
theorem u_C_slices_Clone_Key_k2 {C : CallW} {P : Program} {rd : Bool} {is : List Item} {fr : Fr} {σ : St} {K : KC} : runC C P rd C_slices_Clone_Key_k2 is fr σ K = runC C P rd (.seq (.seq (.sq [⟨some 3, none, .mv false (.t 0)⟩,
    ⟨some 4, none, .bin .eql (.ref 1) (.t 3) (.c .nilS)⟩]) (.cond (.t 4) (.seq (.sq [⟨some 2, none, .mv true (.c .nilS)⟩]) .ret) .skip)) C_slices_Clone_Key_k1) is fr σ K := (rfl)
def C_slices_Clone_Key : LFn :=
  ⟨8, [.t 2], (.seq (.sq [⟨some 2, none, .mv true (.c .nilS)⟩]) C_slices_Clone_Key_k2)⟩

def C_route_New_k1 (f_key_Good f_key_Cmp f_slices_Clone_Key : FuncId) : LCode := (.cond (.t 29) (.seq (.sq [⟨some 2, none, .mv true (.c .nilP)⟩,
            ⟨some 3, none, .mv true (.c (.int .i64 1))⟩]) .ret) .skip)
theorem u_C_route_New_k1 {C : CallW} {P : Program} {rd : Bool} {is : List Item} {fr : Fr} {σ : St} {K : KC} (f_key_Good f_key_Cmp f_slices_Clone_Key : FuncId) : runC C P rd (C_route_New_k1 f_key_Good f_key_Cmp f_slices_Clone_Key) is fr σ K = runC C P rd (.cond (.t 29) (.seq (.sq [⟨some 2, none, .mv true (.c .nilP)⟩,
            ⟨some 3, none, .mv true (.c (.int .i64 1))⟩]) .ret) .skip) is fr σ K := (rfl)
def C_route_New_k2 (f_key_Good f_key_Cmp f_slices_Clone_Key : FuncId) : LCode := (.seq (.tree (.rd ⟨some 13, none, .loadA 16 (.t 5)⟩ 0 false (.mv ⟨some 14, none, .call (.f f_key_Good) [(.t 13)]⟩ [0] (.rd ⟨some 15, none, .un .not (.t 14)⟩ 2 false (.rd ⟨some 16, none, .mv false (.t 15)⟩ 3 false (.rd ⟨some 17, some (16, false), .mv false (.t 4)⟩ 4 false (.rd ⟨some 18, some (16, false), .bin .gtr .sc (.t 17) (.c (.int .i64 0))⟩ 5 false (.rd ⟨some 19, some (16, false), .mv false (.t 18)⟩ 6 false (.rd ⟨some 20, some (19, true), .mv false (.t 0)⟩ 7 false (.rd ⟨some 21, some (19, true), .mv false (.t 4)⟩ 8 false (.rd ⟨some 22, some (19, true), .bin .sub .sc (.t 21) (.c (.int .i64 1))⟩ 9 false (.rd ⟨some 23, some (19, true), .ixa (.sl 16) (.t 20) (.t 22)⟩ 10 false (.rd ⟨some 24, some (19, true), .loadA 16 (.t 23)⟩ 11 false (.rd ⟨some 25, some (19, true), .loadA 16 (.t 5)⟩ 12 false (.mv ⟨some 26, some (19, true), .call (.f f_key_Cmp) [(.t 24), (.t 25)]⟩ [0, 1, 2, 3, 4, 5, 6, 7, 8, 9, 10, 11, 12] (.rd ⟨some 27, some (19, true), .bin .geq .sc (.t 26) (.c (.int .i64 0))⟩ 14 false (.rd ⟨some 28, some (16, false), .pick (.t 19) (.t 27) (.c (.bool false))⟩ 15 false (.rd ⟨some 29, none, .pick (.t 16) (.c (.bool true)) (.t 28)⟩ 16 false .done))) .stop)))))))))))) .stop))) (C_route_New_k1 f_key_Good f_key_Cmp f_slices_Clone_Key))
theorem u_C_route_New_k2 {C : CallW} {P : Program} {rd : Bool} {is : List Item} {fr : Fr} {σ : St} {K : KC} (f_key_Good f_key_Cmp f_slices_Clone_Key : FuncId) : runC C P rd (C_route_New_k2 f_key_Good f_key_Cmp f_slices_Clone_Key) is fr σ K = runC C P rd (.seq (.tree (.rd ⟨some 13, none, .loadA 16 (.t 5)⟩ 0 false (.mv ⟨some 14, none, .call (.f f_key_Good) [(.t 13)]⟩ [0] (.rd ⟨some 15, none, .un .not (.t 14)⟩ 2 false (.rd ⟨some 16, none, .mv false (.t 15)⟩ 3 false (.rd ⟨some 17, some (16, false), .mv false (.t 4)⟩ 4 false (.rd ⟨some 18, some (16, false), .bin .gtr .sc (.t 17) (.c (.int .i64 0))⟩ 5 false (.rd ⟨some 19, some (16, false), .mv false (.t 18)⟩ 6 false (.rd ⟨some 20, some (19, true), .mv false (.t 0)⟩ 7 false (.rd ⟨some 21, some (19, true), .mv false (.t 4)⟩ 8 false (.rd ⟨some 22, some (19, true), .bin .sub .sc (.t 21) (.c (.int .i64 1))⟩ 9 false (.rd ⟨some 23, some (19, true), .ixa (.sl 16) (.t 20) (.t 22)⟩ 10 false (.rd ⟨some 24, some (19, true), .loadA 16 (.t 23)⟩ 11 false (.rd ⟨some 25, some (19, true), .loadA 16 (.t 5)⟩ 12 false (.mv ⟨some 26, some (19, true), .call (.f f_key_Cmp) [(.t 24), (.t 25)]⟩ [0, 1, 2, 3, 4, 5, 6, 7, 8, 9, 10, 11, 12] (.rd ⟨some 27, some (19, true), .bin .geq .sc (.t 26) (.c (.int .i64 0))⟩ 14 false (.rd ⟨some 28, some (16, false), .pick (.t 19) (.t 27) (.c (.bool false))⟩ 15 false (.rd ⟨some 29, none, .pick (.t 16) (.c (.bool true)) (.t 28)⟩ 16 false .done))) .stop)))))))))))) .stop))) (C_route_New_k1 f_key_Good f_key_Cmp f_slices_Clone_Key)) is fr σ K := (rfl)
def C_route_New_k3 (f_key_Good f_key_Cmp f_slices_Clone_Key : FuncId) : LCode := (.seq (.block 1 (.seq (.sq [⟨some 10, none, .mv false (.t 8)⟩,
          ⟨some 11, none, .ixa (.sl 16) (.t 6) (.t 8)⟩,
          ⟨some 12, none, .loadA 16 (.t 11)⟩,
          ⟨some 5, none, .alloc false zk⟩,
          ⟨some 4, none, .mv true (.t 10)⟩,
          ⟨none, none, .store 16 (.t 5) (.t 12)⟩]) (C_route_New_k2 f_key_Good f_key_Cmp f_slices_Clone_Key))) (.sq [⟨some 30, none, .bin .add .sc (.t 8) (.c (.int .i64 1))⟩,
        ⟨some 8, none, .mv false (.t 30)⟩]))
theorem u_C_route_New_k3 {C : CallW} {P : Program} {rd : Bool} {is : List Item} {fr : Fr} {σ : St} {K : KC} (f_key_Good f_key_Cmp f_slices_Clone_Key : FuncId) : runC C P rd (C_route_New_k3 f_key_Good f_key_Cmp f_slices_Clone_Key) is fr σ K = runC C P rd (.seq (.block 1 (.seq (.sq [⟨some 10, none, .mv false (.t 8)⟩,
          ⟨some 11, none, .ixa (.sl 16) (.t 6) (.t 8)⟩,
          ⟨some 12, none, .loadA 16 (.t 11)⟩,
          ⟨some 5, none, .alloc false zk⟩,
          ⟨some 4, none, .mv true (.t 10)⟩,
          ⟨none, none, .store 16 (.t 5) (.t 12)⟩]) (C_route_New_k2 f_key_Good f_key_Cmp f_slices_Clone_Key))) (.sq [⟨some 30, none, .bin .add .sc (.t 8) (.c (.int .i64 1))⟩,
        ⟨some 8, none, .mv false (.t 30)⟩])) is fr σ K := (rfl)
def C_route_New_k4 (f_key_Good f_key_Cmp f_slices_Clone_Key : FuncId) : LCode := (.seq (.sq [⟨some 9, none, .bin .lss .sc (.t 8) (.t 7)⟩]) (.seq (.cond (.t 9) .skip (.exit 0)) (C_route_New_k3 f_key_Good f_key_Cmp f_slices_Clone_Key)))
theorem u_C_route_New_k4 {C : CallW} {P : Program} {rd : Bool} {is : List Item} {fr : Fr} {σ : St} {K : KC} (f_key_Good f_key_Cmp f_slices_Clone_Key : FuncId) : runC C P rd (C_route_New_k4 f_key_Good f_key_Cmp f_slices_Clone_Key) is fr σ K = runC C P rd (.seq (.sq [⟨some 9, none, .bin .lss .sc (.t 8) (.t 7)⟩]) (.seq (.cond (.t 9) .skip (.exit 0)) (C_route_New_k3 f_key_Good f_key_Cmp f_slices_Clone_Key))) is fr σ K := (rfl)
def C_route_New_k5 (f_key_Good f_key_Cmp f_slices_Clone_Key : FuncId) : LCode := (.block 0 (.loop [true, false, false, false, false, false, true, true, true, false, false, false, false, false, false, false, false, false, false, false, false, false, false, false, false, false, false, false, false, false, false, false, false, false, false, false, false, false] (C_route_New_k4 f_key_Good f_key_Cmp f_slices_Clone_Key)))
theorem u_C_route_New_k5 {C : CallW} {P : Program} {rd : Bool} {is : List Item} {fr : Fr} {σ : St} {K : KC} (f_key_Good f_key_Cmp f_slices_Clone_Key : FuncId) : runC C P rd (C_route_New_k5 f_key_Good f_key_Cmp f_slices_Clone_Key) is fr σ K = runC C P rd (.block 0 (.loop [true, false, false, false, false, false, true, true, true, false, false, false, false, false, false, false, false, false, false, false, false, false, false, false, false, false, false, false, false, false, false, false, false, false, false, false, false, false] (C_route_New_k4 f_key_Good f_key_Cmp f_slices_Clone_Key))) is fr σ K := (rfl)
def C_route_New_k6 (f_key_Good f_key_Cmp f_slices_Clone_Key : FuncId) : LCode := (.cond (.t 33) (.seq (.sq [⟨some 2, none, .mv true (.c .nilP)⟩,
      ⟨some 3, none, .mv true (.c (.int .i64 1))⟩]) .ret) .skip)
theorem u_C_route_New_k6 {C : CallW} {P : Program} {rd : Bool} {is : List Item} {fr : Fr} {σ : St} {K : KC} (f_key_Good f_key_Cmp f_slices_Clone_Key : FuncId) : runC C P rd (C_route_New_k6 f_key_Good f_key_Cmp f_slices_Clone_Key) is fr σ K = runC C P rd (.cond (.t 33) (.seq (.sq [⟨some 2, none, .mv true (.c .nilP)⟩,
      ⟨some 3, none, .mv true (.c (.int .i64 1))⟩]) .ret) .skip) is fr σ K := (rfl)
def C_route_New_k7 (f_key_Good f_key_Cmp f_slices_Clone_Key : FuncId) : LCode := (.seq (.sq [⟨some 34, none, .mv true (.t 0)⟩,
    ⟨some 35, none, .call (.f f_slices_Clone_Key) [(.t 34)]⟩,
    ⟨some 36, none, .build [(.s .nilS)] [(0, 1, (.t 35))]⟩,
    ⟨some 37, none, .box false true (.t 36)⟩,
    ⟨some 2, none, .mv true (.t 37)⟩,
    ⟨some 3, none, .mv true (.c (.int .i64 0))⟩]) .ret)
theorem u_C_route_New_k7 {C : CallW} {P : Program} {rd : Bool} {is : List Item} {fr : Fr} {σ : St} {K : KC} (f_key_Good f_key_Cmp f_slices_Clone_Key : FuncId) : runC C P rd (C_route_New_k7 f_key_Good f_key_Cmp f_slices_Clone_Key) is fr σ K = runC C P rd (.seq (.sq [⟨some 34, none, .mv true (.t 0)⟩,
    ⟨some 35, none, .call (.f f_slices_Clone_Key) [(.t 34)]⟩,
    ⟨some 36, none, .build [(.s .nilS)] [(0, 1, (.t 35))]⟩,
    ⟨some 37, none, .box false true (.t 36)⟩,
    ⟨some 2, none, .mv true (.t 37)⟩,
    ⟨some 3, none, .mv true (.c (.int .i64 0))⟩]) .ret) is fr σ K := (rfl)
def C_route_New_k8 (f_key_Good f_key_Cmp f_slices_Clone_Key : FuncId) : LCode := (.seq (.seq (.sq [⟨some 31, none, .mv false (.t 0)⟩,
    ⟨some 32, none, .len .sl (.t 31)⟩,
    ⟨some 33, none, .bin .geq .sc (.t 32) (.c (.int .i64 8))⟩]) (C_route_New_k6 f_key_Good f_key_Cmp f_slices_Clone_Key)) (C_route_New_k7 f_key_Good f_key_Cmp f_slices_Clone_Key))
theorem u_C_route_New_k8 {C : CallW} {P : Program} {rd : Bool} {is : List Item} {fr : Fr} {σ : St} {K : KC} (f_key_Good f_key_Cmp f_slices_Clone_Key : FuncId) : runC C P rd (C_route_New_k8 f_key_Good f_key_Cmp f_slices_Clone_Key) is fr σ K = runC C P rd (.seq (.seq (.sq [⟨some 31, none, .mv false (.t 0)⟩,
    ⟨some 32, none, .len .sl (.t 31)⟩,
    ⟨some 33, none, .bin .geq .sc (.t 32) (.c (.int .i64 8))⟩]) (C_route_New_k6 f_key_Good f_key_Cmp f_slices_Clone_Key)) (C_route_New_k7 f_key_Good f_key_Cmp f_slices_Clone_Key)) is fr σ K := (rfl)
def C_route_New_k9 (f_key_Good f_key_Cmp f_slices_Clone_Key : FuncId) : LCode := (.seq (.seq (.sq [⟨some 6, none, .mv false (.t 0)⟩,
    ⟨some 7, none, .len .sl (.t 6)⟩,
    ⟨some 8, none, .mv false (.c (.int .i64 0))⟩]) (C_route_New_k5 f_key_Good f_key_Cmp f_slices_Clone_Key)) (C_route_New_k8 f_key_Good f_key_Cmp f_slices_Clone_Key))
theorem u_C_route_New_k9 {C : CallW} {P : Program} {rd : Bool} {is : List Item} {fr : Fr} {σ : St} {K : KC} (f_key_Good f_key_Cmp f_slices_Clone_Key : FuncId) : runC C P rd (C_route_New_k9 f_key_Good f_key_Cmp f_slices_Clone_Key) is fr σ K = runC C P rd (.seq (.seq (.sq [⟨some 6, none, .mv false (.t 0)⟩,
    ⟨some 7, none, .len .sl (.t 6)⟩,
    ⟨some 8, none, .mv false (.c (.int .i64 0))⟩]) (C_route_New_k5 f_key_Good f_key_Cmp f_slices_Clone_Key)) (C_route_New_k8 f_key_Good f_key_Cmp f_slices_Clone_Key)) is fr σ K := (rfl)
def C_route_New (f_key_Good f_key_Cmp f_slices_Clone_Key : FuncId) : LFn :=
  ⟨38, [.t 2, .t 3], (.seq (.sq [⟨some 2, none, .mv true (.c .nilP)⟩,
    ⟨some 3, none, .mv true (.c (.int .i64 0))⟩]) (C_route_New_k9 f_key_Good f_key_Cmp f_slices_Clone_Key))⟩

def C_route_Table_Nodes_k1 : LCode := (.seq (.sq [⟨some 3, none, .mv false (.t 0)⟩,
    ⟨some 4, none, .nilc (.t 3)⟩,
    ⟨some 5, none, .shift 0 (.t 4)⟩,
    ⟨some 6, none, .load1 false (.t 5)⟩,
    ⟨some 7, none, .len .sl (.t 6)⟩,
    ⟨some 8, none, .bin .add .sc (.t 7) (.c (.int .i64 1))⟩,
    ⟨some 2, none, .mv true (.t 8)⟩]) .ret)
theorem u_C_route_Table_Nodes_k1 {C : CallW} {P : Program} {rd : Bool} {is : List Item} {fr : Fr} {σ : St} {K : KC} : runC C P rd C_route_Table_Nodes_k1 is fr σ K = runC C P rd (.seq (.sq [⟨some 3, none, .mv false (.t 0)⟩,
    ⟨some 4, none, .nilc (.t 3)⟩,
    ⟨some 5, none, .shift 0 (.t 4)⟩,
    ⟨some 6, none, .load1 false (.t 5)⟩,
    ⟨some 7, none, .len .sl (.t 6)⟩,
    ⟨some 8, none, .bin .add .sc (.t 7) (.c (.int .i64 1))⟩,
    ⟨some 2, none, .mv true (.t 8)⟩]) .ret) is fr σ K := (rfl)
def C_route_Table_Nodes : LFn :=
  ⟨9, [.t 2], (.seq (.sq [⟨some 2, none, .mv true (.c (.int .i64 0))⟩]) C_route_Table_Nodes_k1)⟩

def C_route_Table_Of_k1 (f_key_Good f_key_Cmp : FuncId) : LCode := (.sq [⟨some 24, none, .mv false (.t 5)⟩,
            ⟨some 25, none, .bin .add .sc (.t 24) (.c (.int .i64 1))⟩,
            ⟨some 5, none, .mv true (.t 25)⟩])
theorem u_C_route_Table_Of_k1 {C : CallW} {P : Program} {rd : Bool} {is : List Item} {fr : Fr} {σ : St} {K : KC} (f_key_Good f_key_Cmp : FuncId) : runC C P rd (C_route_Table_Of_k1 f_key_Good f_key_Cmp) is fr σ K = runC C P rd (.sq [⟨some 24, none, .mv false (.t 5)⟩,
            ⟨some 25, none, .bin .add .sc (.t 24) (.c (.int .i64 1))⟩,
            ⟨some 5, none, .mv true (.t 25)⟩]) is fr σ K := (rfl)
def C_route_Table_Of_k2 (f_key_Good f_key_Cmp : FuncId) : LCode := (.seq (.sq [⟨some 20, none, .loadA 16 (.t 7)⟩,
          ⟨some 21, none, .loadA 16 (.t 3)⟩,
          ⟨some 22, none, .call (.f f_key_Cmp) [(.t 20), (.t 21)]⟩,
          ⟨some 23, none, .bin .leq .sc (.t 22) (.c (.int .i64 0))⟩]) (.cond (.t 23) (C_route_Table_Of_k1 f_key_Good f_key_Cmp) .skip))
theorem u_C_route_Table_Of_k2 {C : CallW} {P : Program} {rd : Bool} {is : List Item} {fr : Fr} {σ : St} {K : KC} (f_key_Good f_key_Cmp : FuncId) : runC C P rd (C_route_Table_Of_k2 f_key_Good f_key_Cmp) is fr σ K = runC C P rd (.seq (.sq [⟨some 20, none, .loadA 16 (.t 7)⟩,
          ⟨some 21, none, .loadA 16 (.t 3)⟩,
          ⟨some 22, none, .call (.f f_key_Cmp) [(.t 20), (.t 21)]⟩,
          ⟨some 23, none, .bin .leq .sc (.t 22) (.c (.int .i64 0))⟩]) (.cond (.t 23) (C_route_Table_Of_k1 f_key_Good f_key_Cmp) .skip)) is fr σ K := (rfl)
def C_route_Table_Of_k3 (f_key_Good f_key_Cmp : FuncId) : LCode := (.seq (.block 1 (.seq (.sq [⟨some 18, none, .ixa (.sl 16) (.t 14) (.t 16)⟩,
          ⟨some 19, none, .loadA 16 (.t 18)⟩,
          ⟨some 7, none, .alloc false zk⟩,
          ⟨none, none, .store 16 (.t 7) (.t 19)⟩]) (C_route_Table_Of_k2 f_key_Good f_key_Cmp))) (.sq [⟨some 26, none, .bin .add .sc (.t 16) (.c (.int .i64 1))⟩,
        ⟨some 16, none, .mv false (.t 26)⟩]))
theorem u_C_route_Table_Of_k3 {C : CallW} {P : Program} {rd : Bool} {is : List Item} {fr : Fr} {σ : St} {K : KC} (f_key_Good f_key_Cmp : FuncId) : runC C P rd (C_route_Table_Of_k3 f_key_Good f_key_Cmp) is fr σ K = runC C P rd (.seq (.block 1 (.seq (.sq [⟨some 18, none, .ixa (.sl 16) (.t 14) (.t 16)⟩,
          ⟨some 19, none, .loadA 16 (.t 18)⟩,
          ⟨some 7, none, .alloc false zk⟩,
          ⟨none, none, .store 16 (.t 7) (.t 19)⟩]) (C_route_Table_Of_k2 f_key_Good f_key_Cmp))) (.sq [⟨some 26, none, .bin .add .sc (.t 16) (.c (.int .i64 1))⟩,
        ⟨some 16, none, .mv false (.t 26)⟩])) is fr σ K := (rfl)
def C_route_Table_Of_k4 (f_key_Good f_key_Cmp : FuncId) : LCode := (.seq (.sq [⟨some 17, none, .bin .lss .sc (.t 16) (.t 15)⟩]) (.seq (.cond (.t 17) .skip (.exit 0)) (C_route_Table_Of_k3 f_key_Good f_key_Cmp)))
theorem u_C_route_Table_Of_k4 {C : CallW} {P : Program} {rd : Bool} {is : List Item} {fr : Fr} {σ : St} {K : KC} (f_key_Good f_key_Cmp : FuncId) : runC C P rd (C_route_Table_Of_k4 f_key_Good f_key_Cmp) is fr σ K = runC C P rd (.seq (.sq [⟨some 17, none, .bin .lss .sc (.t 16) (.t 15)⟩]) (.seq (.cond (.t 17) .skip (.exit 0)) (C_route_Table_Of_k3 f_key_Good f_key_Cmp))) is fr σ K := (rfl)
def C_route_Table_Of_k5 (f_key_Good f_key_Cmp : FuncId) : LCode := (.block 0 (.loop [false, false, false, true, false, true, false, false, false, false, false, false, false, false, true, true, true, false, false, false, false, false, false, false, false, false, false, false] (C_route_Table_Of_k4 f_key_Good f_key_Cmp)))
theorem u_C_route_Table_Of_k5 {C : CallW} {P : Program} {rd : Bool} {is : List Item} {fr : Fr} {σ : St} {K : KC} (f_key_Good f_key_Cmp : FuncId) : runC C P rd (C_route_Table_Of_k5 f_key_Good f_key_Cmp) is fr σ K = runC C P rd (.block 0 (.loop [false, false, false, true, false, true, false, false, false, false, false, false, false, false, true, true, true, false, false, false, false, false, false, false, false, false, false, false] (C_route_Table_Of_k4 f_key_Good f_key_Cmp))) is fr σ K := (rfl)
def C_route_Table_Of_k6 (f_key_Good f_key_Cmp : FuncId) : LCode := (.seq (.seq (.sq [⟨some 11, none, .mv false (.t 0)⟩,
    ⟨some 12, none, .nilc (.t 11)⟩,
    ⟨some 13, none, .shift 0 (.t 12)⟩,
    ⟨some 14, none, .load1 false (.t 13)⟩,
    ⟨some 15, none, .len .sl (.t 14)⟩,
    ⟨some 16, none, .mv false (.c (.int .i64 0))⟩]) (C_route_Table_Of_k5 f_key_Good f_key_Cmp)) (.seq (.sq [⟨some 27, none, .mv false (.t 5)⟩,
    ⟨some 4, none, .mv true (.t 27)⟩]) .ret))
theorem u_C_route_Table_Of_k6 {C : CallW} {P : Program} {rd : Bool} {is : List Item} {fr : Fr} {σ : St} {K : KC} (f_key_Good f_key_Cmp : FuncId) : runC C P rd (C_route_Table_Of_k6 f_key_Good f_key_Cmp) is fr σ K = runC C P rd (.seq (.seq (.sq [⟨some 11, none, .mv false (.t 0)⟩,
    ⟨some 12, none, .nilc (.t 11)⟩,
    ⟨some 13, none, .shift 0 (.t 12)⟩,
    ⟨some 14, none, .load1 false (.t 13)⟩,
    ⟨some 15, none, .len .sl (.t 14)⟩,
    ⟨some 16, none, .mv false (.c (.int .i64 0))⟩]) (C_route_Table_Of_k5 f_key_Good f_key_Cmp)) (.seq (.sq [⟨some 27, none, .mv false (.t 5)⟩,
    ⟨some 4, none, .mv true (.t 27)⟩]) .ret)) is fr σ K := (rfl)
def C_route_Table_Of_k7 (f_key_Good f_key_Cmp : FuncId) : LCode := (.seq (.seq (.sq [⟨some 8, none, .loadA 16 (.t 3)⟩,
    ⟨some 9, none, .call (.f f_key_Good) [(.t 8)]⟩,
    ⟨some 10, none, .un .not (.t 9)⟩]) (.cond (.t 10) (.seq (.sq [⟨some 4, none, .mv true (.c (.int .i64 (-1)))⟩]) .ret) .skip)) (.seq (.sq [⟨some 5, none, .mv true (.c (.int .i64 0))⟩]) (C_route_Table_Of_k6 f_key_Good f_key_Cmp)))
theorem u_C_route_Table_Of_k7 {C : CallW} {P : Program} {rd : Bool} {is : List Item} {fr : Fr} {σ : St} {K : KC} (f_key_Good f_key_Cmp : FuncId) : runC C P rd (C_route_Table_Of_k7 f_key_Good f_key_Cmp) is fr σ K = runC C P rd (.seq (.seq (.sq [⟨some 8, none, .loadA 16 (.t 3)⟩,
    ⟨some 9, none, .call (.f f_key_Good) [(.t 8)]⟩,
    ⟨some 10, none, .un .not (.t 9)⟩]) (.cond (.t 10) (.seq (.sq [⟨some 4, none, .mv true (.c (.int .i64 (-1)))⟩]) .ret) .skip)) (.seq (.sq [⟨some 5, none, .mv true (.c (.int .i64 0))⟩]) (C_route_Table_Of_k6 f_key_Good f_key_Cmp))) is fr σ K := (rfl)
def C_route_Table_Of (f_key_Good f_key_Cmp : FuncId) : LFn :=
  ⟨28, [.t 4], (.seq (.sq [⟨some 3, none, .box false false (.t 1)⟩,
    ⟨some 4, none, .mv true (.c (.int .i64 0))⟩]) (C_route_Table_Of_k7 f_key_Good f_key_Cmp))⟩

def C_route_Table_Cover_k1 (f_key_Cmp f_route_Table_Nodes : FuncId) : LCode := (.sq [⟨some 69, none, .mv true (.t 8)⟩,
            ⟨some 70, none, .mv false (.t 9)⟩,
            ⟨some 71, none, .bsl ⟨1, false, 8, (.s (.int .i64 0))⟩ 1 [(0, (.t 70))]⟩,
            ⟨some 72, none, .app ⟨1, false, 8, (.s (.int .i64 0))⟩ false (.t 69) (.t 71)⟩,
            ⟨some 8, none, .mv true (.t 72)⟩])
theorem u_C_route_Table_Cover_k1 {C : CallW} {P : Program} {rd : Bool} {is : List Item} {fr : Fr} {σ : St} {K : KC} (f_key_Cmp f_route_Table_Nodes : FuncId) : runC C P rd (C_route_Table_Cover_k1 f_key_Cmp f_route_Table_Nodes) is fr σ K = runC C P rd (.sq [⟨some 69, none, .mv true (.t 8)⟩,
            ⟨some 70, none, .mv false (.t 9)⟩,
            ⟨some 71, none, .bsl ⟨1, false, 8, (.s (.int .i64 0))⟩ 1 [(0, (.t 70))]⟩,
            ⟨some 72, none, .app ⟨1, false, 8, (.s (.int .i64 0))⟩ false (.t 69) (.t 71)⟩,
            ⟨some 8, none, .mv true (.t 72)⟩]) is fr σ K := (rfl)
def C_route_Table_Cover_k2 (f_key_Cmp f_route_Table_Nodes : FuncId) : LCode := (.seq (.sq [⟨some 65, none, .mv false (.t 10)⟩,
          ⟨some 66, none, .mv false (.t 65)⟩,
          ⟨some 67, some (66, true), .mv false (.t 11)⟩,
          ⟨some 68, none, .pick (.t 66) (.t 67) (.c (.bool false))⟩]) (.cond (.t 68) (C_route_Table_Cover_k1 f_key_Cmp f_route_Table_Nodes) .skip))
theorem u_C_route_Table_Cover_k2 {C : CallW} {P : Program} {rd : Bool} {is : List Item} {fr : Fr} {σ : St} {K : KC} (f_key_Cmp f_route_Table_Nodes : FuncId) : runC C P rd (C_route_Table_Cover_k2 f_key_Cmp f_route_Table_Nodes) is fr σ K = runC C P rd (.seq (.sq [⟨some 65, none, .mv false (.t 10)⟩,
          ⟨some 66, none, .mv false (.t 65)⟩,
          ⟨some 67, some (66, true), .mv false (.t 11)⟩,
          ⟨some 68, none, .pick (.t 66) (.t 67) (.c (.bool false))⟩]) (.cond (.t 68) (C_route_Table_Cover_k1 f_key_Cmp f_route_Table_Nodes) .skip)) is fr σ K := (rfl)
def C_route_Table_Cover_k3 (f_key_Cmp f_route_Table_Nodes : FuncId) : LCode := (.seq (.tree (.rd ⟨some 47, none, .mv false (.t 9)⟩ 0 false (.rd ⟨some 48, none, .bin .eql .sc (.t 47) (.c (.int .i64 0))⟩ 1 false (.rd ⟨some 49, none, .mv false (.t 48)⟩ 2 false (.rd ⟨some 50, some (49, false), .mv false (.t 7)⟩ 3 false (.rd ⟨some 51, none, .pick (.t 49) (.c (.bool true)) (.t 50)⟩ 4 false (.rd ⟨some 52, none, .mv false (.t 51)⟩ 5 false (.rd ⟨some 53, some (52, false), .mv false (.t 0)⟩ 6 false (.rd ⟨some 54, some (52, false), .nilc (.t 53)⟩ 7 false (.rd ⟨some 55, some (52, false), .shift 0 (.t 54)⟩ 8 false (.rd ⟨some 56, some (52, false), .load1 false (.t 55)⟩ 9 false (.rd ⟨some 57, some (52, false), .mv false (.t 9)⟩ 10 false (.rd ⟨some 58, some (52, false), .bin .sub .sc (.t 57) (.c (.int .i64 1))⟩ 11 false (.rd ⟨some 59, some (52, false), .ixa (.sl 16) (.t 56) (.t 58)⟩ 12 false (.rd ⟨some 60, some (52, false), .loadA 16 (.t 59)⟩ 13 false (.rd ⟨some 61, some (52, false), .loadA 16 (.t 5)⟩ 14 false (.mv ⟨some 62, some (52, false), .call (.f f_key_Cmp) [(.t 60), (.t 61)]⟩ [0, 1, 2, 3, 4, 5, 6, 7, 8, 9, 10, 11, 12, 13, 14] (.rd ⟨some 63, some (52, false), .bin .lss .sc (.t 62) (.c (.int .i64 0))⟩ 16 false (.rd ⟨some 64, none, .pick (.t 52) (.c (.bool true)) (.t 63)⟩ 17 false (.mv ⟨some 11, none, .mv true (.t 64)⟩ [0, 1, 2, 3, 4, 5, 6, 7, 8, 9, 10, 11, 12, 13, 14, 15, 16, 17] .done .stop))) .stop))))))))))))))))) (C_route_Table_Cover_k2 f_key_Cmp f_route_Table_Nodes))
theorem u_C_route_Table_Cover_k3 {C : CallW} {P : Program} {rd : Bool} {is : List Item} {fr : Fr} {σ : St} {K : KC} (f_key_Cmp f_route_Table_Nodes : FuncId) : runC C P rd (C_route_Table_Cover_k3 f_key_Cmp f_route_Table_Nodes) is fr σ K = runC C P rd (.seq (.tree (.rd ⟨some 47, none, .mv false (.t 9)⟩ 0 false (.rd ⟨some 48, none, .bin .eql .sc (.t 47) (.c (.int .i64 0))⟩ 1 false (.rd ⟨some 49, none, .mv false (.t 48)⟩ 2 false (.rd ⟨some 50, some (49, false), .mv false (.t 7)⟩ 3 false (.rd ⟨some 51, none, .pick (.t 49) (.c (.bool true)) (.t 50)⟩ 4 false (.rd ⟨some 52, none, .mv false (.t 51)⟩ 5 false (.rd ⟨some 53, some (52, false), .mv false (.t 0)⟩ 6 false (.rd ⟨some 54, some (52, false), .nilc (.t 53)⟩ 7 false (.rd ⟨some 55, some (52, false), .shift 0 (.t 54)⟩ 8 false (.rd ⟨some 56, some (52, false), .load1 false (.t 55)⟩ 9 false (.rd ⟨some 57, some (52, false), .mv false (.t 9)⟩ 10 false (.rd ⟨some 58, some (52, false), .bin .sub .sc (.t 57) (.c (.int .i64 1))⟩ 11 false (.rd ⟨some 59, some (52, false), .ixa (.sl 16) (.t 56) (.t 58)⟩ 12 false (.rd ⟨some 60, some (52, false), .loadA 16 (.t 59)⟩ 13 false (.rd ⟨some 61, some (52, false), .loadA 16 (.t 5)⟩ 14 false (.mv ⟨some 62, some (52, false), .call (.f f_key_Cmp) [(.t 60), (.t 61)]⟩ [0, 1, 2, 3, 4, 5, 6, 7, 8, 9, 10, 11, 12, 13, 14] (.rd ⟨some 63, some (52, false), .bin .lss .sc (.t 62) (.c (.int .i64 0))⟩ 16 false (.rd ⟨some 64, none, .pick (.t 52) (.c (.bool true)) (.t 63)⟩ 17 false (.mv ⟨some 11, none, .mv true (.t 64)⟩ [0, 1, 2, 3, 4, 5, 6, 7, 8, 9, 10, 11, 12, 13, 14, 15, 16, 17] .done .stop))) .stop))))))))))))))))) (C_route_Table_Cover_k2 f_key_Cmp f_route_Table_Nodes)) is fr σ K := (rfl)
def C_route_Table_Cover_k4 (f_key_Cmp f_route_Table_Nodes : FuncId) : LCode := (.seq (.tree (.rd ⟨some 28, none, .mv false (.t 9)⟩ 0 false (.rd ⟨some 29, none, .mv false (.t 0)⟩ 1 false (.rd ⟨some 30, none, .nilc (.t 29)⟩ 2 false (.rd ⟨some 31, none, .shift 0 (.t 30)⟩ 3 false (.rd ⟨some 32, none, .load1 false (.t 31)⟩ 4 false (.rd ⟨some 33, none, .len .sl (.t 32)⟩ 5 false (.rd ⟨some 34, none, .bin .eql .sc (.t 28) (.t 33)⟩ 6 false (.rd ⟨some 35, none, .mv false (.t 34)⟩ 7 false (.rd ⟨some 36, some (35, false), .mv false (.t 0)⟩ 8 false (.rd ⟨some 37, some (35, false), .nilc (.t 36)⟩ 9 false (.rd ⟨some 38, some (35, false), .shift 0 (.t 37)⟩ 10 false (.rd ⟨some 39, some (35, false), .load1 false (.t 38)⟩ 11 false (.rd ⟨some 40, some (35, false), .mv false (.t 9)⟩ 12 false (.rd ⟨some 41, some (35, false), .ixa (.sl 16) (.t 39) (.t 40)⟩ 13 false (.rd ⟨some 42, some (35, false), .loadA 16 (.t 41)⟩ 14 false (.rd ⟨some 43, some (35, false), .loadA 16 (.t 4)⟩ 15 false (.mv ⟨some 44, some (35, false), .call (.f f_key_Cmp) [(.t 42), (.t 43)]⟩ [0, 1, 2, 3, 4, 5, 6, 7, 8, 9, 10, 11, 12, 13, 14, 15] (.rd ⟨some 45, some (35, false), .bin .gtr .sc (.t 44) (.c (.int .i64 0))⟩ 17 false (.rd ⟨some 46, none, .pick (.t 35) (.c (.bool true)) (.t 45)⟩ 18 false (.mv ⟨some 10, none, .mv true (.t 46)⟩ [0, 1, 2, 3, 4, 5, 6, 7, 8, 9, 10, 11, 12, 13, 14, 15, 16, 17, 18] .done .stop))) .stop)))))))))))))))))) (C_route_Table_Cover_k3 f_key_Cmp f_route_Table_Nodes))
theorem u_C_route_Table_Cover_k4 {C : CallW} {P : Program} {rd : Bool} {is : List Item} {fr : Fr} {σ : St} {K : KC} (f_key_Cmp f_route_Table_Nodes : FuncId) : runC C P rd (C_route_Table_Cover_k4 f_key_Cmp f_route_Table_Nodes) is fr σ K = runC C P rd (.seq (.tree (.rd ⟨some 28, none, .mv false (.t 9)⟩ 0 false (.rd ⟨some 29, none, .mv false (.t 0)⟩ 1 false (.rd ⟨some 30, none, .nilc (.t 29)⟩ 2 false (.rd ⟨some 31, none, .shift 0 (.t 30)⟩ 3 false (.rd ⟨some 32, none, .load1 false (.t 31)⟩ 4 false (.rd ⟨some 33, none, .len .sl (.t 32)⟩ 5 false (.rd ⟨some 34, none, .bin .eql .sc (.t 28) (.t 33)⟩ 6 false (.rd ⟨some 35, none, .mv false (.t 34)⟩ 7 false (.rd ⟨some 36, some (35, false), .mv false (.t 0)⟩ 8 false (.rd ⟨some 37, some (35, false), .nilc (.t 36)⟩ 9 false (.rd ⟨some 38, some (35, false), .shift 0 (.t 37)⟩ 10 false (.rd ⟨some 39, some (35, false), .load1 false (.t 38)⟩ 11 false (.rd ⟨some 40, some (35, false), .mv false (.t 9)⟩ 12 false (.rd ⟨some 41, some (35, false), .ixa (.sl 16) (.t 39) (.t 40)⟩ 13 false (.rd ⟨some 42, some (35, false), .loadA 16 (.t 41)⟩ 14 false (.rd ⟨some 43, some (35, false), .loadA 16 (.t 4)⟩ 15 false (.mv ⟨some 44, some (35, false), .call (.f f_key_Cmp) [(.t 42), (.t 43)]⟩ [0, 1, 2, 3, 4, 5, 6, 7, 8, 9, 10, 11, 12, 13, 14, 15] (.rd ⟨some 45, some (35, false), .bin .gtr .sc (.t 44) (.c (.int .i64 0))⟩ 17 false (.rd ⟨some 46, none, .pick (.t 35) (.c (.bool true)) (.t 45)⟩ 18 false (.mv ⟨some 10, none, .mv true (.t 46)⟩ [0, 1, 2, 3, 4, 5, 6, 7, 8, 9, 10, 11, 12, 13, 14, 15, 16, 17, 18] .done .stop))) .stop)))))))))))))))))) (C_route_Table_Cover_k3 f_key_Cmp f_route_Table_Nodes)) is fr σ K := (rfl)
def C_route_Table_Cover_k5 (f_key_Cmp f_route_Table_Nodes : FuncId) : LCode := (.seq (.block 1 (.seq (.sq [⟨some 27, none, .mv false (.t 25)⟩,
          ⟨some 9, none, .mv true (.t 27)⟩]) (C_route_Table_Cover_k4 f_key_Cmp f_route_Table_Nodes))) (.sq [⟨some 73, none, .bin .add .sc (.t 25) (.c (.int .i64 1))⟩,
        ⟨some 25, none, .mv false (.t 73)⟩]))
theorem u_C_route_Table_Cover_k5 {C : CallW} {P : Program} {rd : Bool} {is : List Item} {fr : Fr} {σ : St} {K : KC} (f_key_Cmp f_route_Table_Nodes : FuncId) : runC C P rd (C_route_Table_Cover_k5 f_key_Cmp f_route_Table_Nodes) is fr σ K = runC C P rd (.seq (.block 1 (.seq (.sq [⟨some 27, none, .mv false (.t 25)⟩,
          ⟨some 9, none, .mv true (.t 27)⟩]) (C_route_Table_Cover_k4 f_key_Cmp f_route_Table_Nodes))) (.sq [⟨some 73, none, .bin .add .sc (.t 25) (.c (.int .i64 1))⟩,
        ⟨some 25, none, .mv false (.t 73)⟩])) is fr σ K := (rfl)
def C_route_Table_Cover_k6 (f_key_Cmp f_route_Table_Nodes : FuncId) : LCode := (.seq (.sq [⟨some 26, none, .bin .lss .sc (.t 25) (.t 24)⟩]) (.seq (.cond (.t 26) .skip (.exit 0)) (C_route_Table_Cover_k5 f_key_Cmp f_route_Table_Nodes)))
theorem u_C_route_Table_Cover_k6 {C : CallW} {P : Program} {rd : Bool} {is : List Item} {fr : Fr} {σ : St} {K : KC} (f_key_Cmp f_route_Table_Nodes : FuncId) : runC C P rd (C_route_Table_Cover_k6 f_key_Cmp f_route_Table_Nodes) is fr σ K = runC C P rd (.seq (.sq [⟨some 26, none, .bin .lss .sc (.t 25) (.t 24)⟩]) (.seq (.cond (.t 26) .skip (.exit 0)) (C_route_Table_Cover_k5 f_key_Cmp f_route_Table_Nodes))) is fr σ K := (rfl)
def C_route_Table_Cover_k7 (f_key_Cmp f_route_Table_Nodes : FuncId) : LCode := (.block 0 (.loop [true, false, false, false, true, true, false, true, true, false, false, false, false, false, false, false, false, false, false, false, false, false, false, false, true, true, false, false, false, false, false, false, false, false, false, false, false, false, false, false, false, false, false, false, false, false, false, false, false, false, false, false, false, false, false, false, false, false, false, false, false, false, false, false, false, false, false, false, false, false, false, false, false, false, false] (C_route_Table_Cover_k6 f_key_Cmp f_route_Table_Nodes)))
theorem u_C_route_Table_Cover_k7 {C : CallW} {P : Program} {rd : Bool} {is : List Item} {fr : Fr} {σ : St} {K : KC} (f_key_Cmp f_route_Table_Nodes : FuncId) : runC C P rd (C_route_Table_Cover_k7 f_key_Cmp f_route_Table_Nodes) is fr σ K = runC C P rd (.block 0 (.loop [true, false, false, false, true, true, false, true, true, false, false, false, false, false, false, false, false, false, false, false, false, false, false, false, true, true, false, false, false, false, false, false, false, false, false, false, false, false, false, false, false, false, false, false, false, false, false, false, false, false, false, false, false, false, false, false, false, false, false, false, false, false, false, false, false, false, false, false, false, false, false, false, false, false, false] (C_route_Table_Cover_k6 f_key_Cmp f_route_Table_Nodes))) is fr σ K := (rfl)
def C_route_Table_Cover_k8 (f_key_Cmp f_route_Table_Nodes : FuncId) : LCode := (.seq (.seq (.sq [⟨some 23, none, .mv false (.t 0)⟩,
    ⟨some 24, none, .call (.f f_route_Table_Nodes) [(.t 23)]⟩,
    ⟨some 25, none, .mv false (.c (.int .i64 0))⟩]) (C_route_Table_Cover_k7 f_key_Cmp f_route_Table_Nodes)) (.seq (.sq [⟨some 74, none, .mv true (.t 8)⟩,
    ⟨some 6, none, .mv true (.t 74)⟩]) .ret))
theorem u_C_route_Table_Cover_k8 {C : CallW} {P : Program} {rd : Bool} {is : List Item} {fr : Fr} {σ : St} {K : KC} (f_key_Cmp f_route_Table_Nodes : FuncId) : runC C P rd (C_route_Table_Cover_k8 f_key_Cmp f_route_Table_Nodes) is fr σ K = runC C P rd (.seq (.seq (.sq [⟨some 23, none, .mv false (.t 0)⟩,
    ⟨some 24, none, .call (.f f_route_Table_Nodes) [(.t 23)]⟩,
    ⟨some 25, none, .mv false (.c (.int .i64 0))⟩]) (C_route_Table_Cover_k7 f_key_Cmp f_route_Table_Nodes)) (.seq (.sq [⟨some 74, none, .mv true (.t 8)⟩,
    ⟨some 6, none, .mv true (.t 74)⟩]) .ret)) is fr σ K := (rfl)
def C_route_Table_Cover_k9 (f_key_Cmp f_route_Table_Nodes : FuncId) : LCode := (.seq (.seq (.sq [⟨some 15, none, .mv false (.t 7)⟩,
    ⟨some 16, none, .un .not (.t 15)⟩,
    ⟨some 17, none, .mv false (.t 16)⟩,
    ⟨some 18, some (17, true), .loadA 16 (.t 5)⟩,
    ⟨some 19, some (17, true), .loadA 16 (.t 4)⟩,
    ⟨some 20, some (17, true), .call (.f f_key_Cmp) [(.t 18), (.t 19)]⟩,
    ⟨some 21, some (17, true), .bin .leq .sc (.t 20) (.c (.int .i64 0))⟩,
    ⟨some 22, none, .pick (.t 17) (.t 21) (.c (.bool false))⟩]) (.cond (.t 22) (.seq (.sq [⟨some 6, none, .mv true (.c .nilS)⟩]) .ret) .skip)) (.seq (.sq [⟨some 8, none, .mv true (.c .nilS)⟩]) (C_route_Table_Cover_k8 f_key_Cmp f_route_Table_Nodes)))
theorem u_C_route_Table_Cover_k9 {C : CallW} {P : Program} {rd : Bool} {is : List Item} {fr : Fr} {σ : St} {K : KC} (f_key_Cmp f_route_Table_Nodes : FuncId) : runC C P rd (C_route_Table_Cover_k9 f_key_Cmp f_route_Table_Nodes) is fr σ K = runC C P rd (.seq (.seq (.sq [⟨some 15, none, .mv false (.t 7)⟩,
    ⟨some 16, none, .un .not (.t 15)⟩,
    ⟨some 17, none, .mv false (.t 16)⟩,
    ⟨some 18, some (17, true), .loadA 16 (.t 5)⟩,
    ⟨some 19, some (17, true), .loadA 16 (.t 4)⟩,
    ⟨some 20, some (17, true), .call (.f f_key_Cmp) [(.t 18), (.t 19)]⟩,
    ⟨some 21, some (17, true), .bin .leq .sc (.t 20) (.c (.int .i64 0))⟩,
    ⟨some 22, none, .pick (.t 17) (.t 21) (.c (.bool false))⟩]) (.cond (.t 22) (.seq (.sq [⟨some 6, none, .mv true (.c .nilS)⟩]) .ret) .skip)) (.seq (.sq [⟨some 8, none, .mv true (.c .nilS)⟩]) (C_route_Table_Cover_k8 f_key_Cmp f_route_Table_Nodes))) is fr σ K := (rfl)
def C_route_Table_Cover_k10 (f_key_Cmp f_route_Table_Nodes : FuncId) : LCode := (.seq (.sq [⟨some 12, none, .loadA 16 (.t 5)⟩,
    ⟨some 13, none, .build zk []⟩,
    ⟨some 14, none, .bin .eql (.leaf lk) (.t 12) (.t 13)⟩,
    ⟨some 7, none, .mv true (.t 14)⟩]) (C_route_Table_Cover_k9 f_key_Cmp f_route_Table_Nodes))
theorem u_C_route_Table_Cover_k10 {C : CallW} {P : Program} {rd : Bool} {is : List Item} {fr : Fr} {σ : St} {K : KC} (f_key_Cmp f_route_Table_Nodes : FuncId) : runC C P rd (C_route_Table_Cover_k10 f_key_Cmp f_route_Table_Nodes) is fr σ K = runC C P rd (.seq (.sq [⟨some 12, none, .loadA 16 (.t 5)⟩,
    ⟨some 13, none, .build zk []⟩,
    ⟨some 14, none, .bin .eql (.leaf lk) (.t 12) (.t 13)⟩,
    ⟨some 7, none, .mv true (.t 14)⟩]) (C_route_Table_Cover_k9 f_key_Cmp f_route_Table_Nodes)) is fr σ K := (rfl)
def C_route_Table_Cover (f_key_Cmp f_route_Table_Nodes : FuncId) : LFn :=
  ⟨75, [.t 6], (.seq (.sq [⟨some 4, none, .box false false (.t 1)⟩,
    ⟨some 5, none, .box false false (.t 2)⟩,
    ⟨some 6, none, .mv true (.c .nilS)⟩]) (C_route_Table_Cover_k10 f_key_Cmp f_route_Table_Nodes))⟩

def C_hourglasslaw17_k_k1 (f_hourglassref10_Of : FuncId) : LCode := (.seq (.sq [⟨some 6, none, .mv false (.t 0)⟩,
    ⟨some 7, none, .call (.f f_hourglassref10_Of) [(.t 6)]⟩,
    ⟨some 5, none, .mv false (.t 7)⟩,
    ⟨some 8, none, .ext (.t 5) 0⟩,
    ⟨some 9, none, .ext (.t 5) 1⟩,
    ⟨some 3, none, .alloc false zk⟩,
    ⟨none, none, .store 16 (.t 3) (.t 8)⟩,
    ⟨some 4, none, .mv true (.t 9)⟩]) (.seq (.sq [⟨some 10, none, .loadA 16 (.t 3)⟩,
    ⟨none, none, .store 16 (.t 2) (.t 10)⟩]) .ret))
theorem u_C_hourglasslaw17_k_k1 {C : CallW} {P : Program} {rd : Bool} {is : List Item} {fr : Fr} {σ : St} {K : KC} (f_hourglassref10_Of : FuncId) : runC C P rd (C_hourglasslaw17_k_k1 f_hourglassref10_Of) is fr σ K = runC C P rd (.seq (.sq [⟨some 6, none, .mv false (.t 0)⟩,
    ⟨some 7, none, .call (.f f_hourglassref10_Of) [(.t 6)]⟩,
    ⟨some 5, none, .mv false (.t 7)⟩,
    ⟨some 8, none, .ext (.t 5) 0⟩,
    ⟨some 9, none, .ext (.t 5) 1⟩,
    ⟨some 3, none, .alloc false zk⟩,
    ⟨none, none, .store 16 (.t 3) (.t 8)⟩,
    ⟨some 4, none, .mv true (.t 9)⟩]) (.seq (.sq [⟨some 10, none, .loadA 16 (.t 3)⟩,
    ⟨none, none, .store 16 (.t 2) (.t 10)⟩]) .ret)) is fr σ K := (rfl)
def C_hourglasslaw17_k (f_hourglassref10_Of : FuncId) : LFn :=
  ⟨11, [.many 2 16], (.seq (.sq [⟨some 2, none, .alloc false zk⟩]) (C_hourglasslaw17_k_k1 f_hourglassref10_Of))⟩

def C_hourglasslaw17_awake_k1 (f_hourglasslaw17_k f_route_New f_route_Table_Of f_route_Table_Nodes : FuncId) : LCode := (.seq (.sq [⟨some 9, none, .mv false (.t 2)⟩,
    ⟨some 10, none, .bin .eql .sc (.t 9) (.c (.int .i64 0))⟩,
    ⟨some 11, none, .mv false (.t 10)⟩,
    ⟨some 12, some (11, true), .mv false (.t 1)⟩,
    ⟨some 13, some (11, true), .bin .neq (.ref 0) (.t 12) (.c .nilP)⟩,
    ⟨some 14, none, .pick (.t 11) (.t 13) (.c (.bool false))⟩,
    ⟨some 15, none, .mv false (.t 14)⟩,
    ⟨some 16, some (15, true), .mv false (.t 1)⟩,
    ⟨some 17, some (15, true), .call (.f f_hourglasslaw17_k) [(.c (.str [97]))]⟩,
    ⟨some 18, some (15, true), .call (.f f_route_Table_Of) [(.t 16), (.t 17)]⟩,
    ⟨some 19, some (15, true), .bin .eql .sc (.t 18) (.c (.int .i64 0))⟩,
    ⟨some 20, none, .pick (.t 15) (.t 19) (.c (.bool false))⟩,
    ⟨some 21, none, .mv false (.t 20)⟩,
    ⟨some 22, some (21, true), .mv false (.t 1)⟩,
    ⟨some 23, some (21, true), .call (.f f_hourglasslaw17_k) [(.c (.str [109]))]⟩,
    ⟨some 24, some (21, true), .call (.f f_route_Table_Of) [(.t 22), (.t 23)]⟩,
    ⟨some 25, some (21, true), .bin .eql .sc (.t 24) (.c (.int .i64 1))⟩,
    ⟨some 26, none, .pick (.t 21) (.t 25) (.c (.bool false))⟩,
    ⟨some 27, none, .mv false (.t 26)⟩,
    ⟨some 28, some (27, true), .mv false (.t 1)⟩,
    ⟨some 29, some (27, true), .call (.f f_route_Table_Nodes) [(.t 28)]⟩,
    ⟨some 30, some (27, true), .bin .eql .sc (.t 29) (.c (.int .i64 2))⟩,
    ⟨some 31, none, .pick (.t 27) (.t 30) (.c (.bool false))⟩,
    ⟨some 0, none, .mv true (.t 31)⟩]) .ret)
theorem u_C_hourglasslaw17_awake_k1 {C : CallW} {P : Program} {rd : Bool} {is : List Item} {fr : Fr} {σ : St} {K : KC} (f_hourglasslaw17_k f_route_New f_route_Table_Of f_route_Table_Nodes : FuncId) : runC C P rd (C_hourglasslaw17_awake_k1 f_hourglasslaw17_k f_route_New f_route_Table_Of f_route_Table_Nodes) is fr σ K = runC C P rd (.seq (.sq [⟨some 9, none, .mv false (.t 2)⟩,
    ⟨some 10, none, .bin .eql .sc (.t 9) (.c (.int .i64 0))⟩,
    ⟨some 11, none, .mv false (.t 10)⟩,
    ⟨some 12, some (11, true), .mv false (.t 1)⟩,
    ⟨some 13, some (11, true), .bin .neq (.ref 0) (.t 12) (.c .nilP)⟩,
    ⟨some 14, none, .pick (.t 11) (.t 13) (.c (.bool false))⟩,
    ⟨some 15, none, .mv false (.t 14)⟩,
    ⟨some 16, some (15, true), .mv false (.t 1)⟩,
    ⟨some 17, some (15, true), .call (.f f_hourglasslaw17_k) [(.c (.str [97]))]⟩,
    ⟨some 18, some (15, true), .call (.f f_route_Table_Of) [(.t 16), (.t 17)]⟩,
    ⟨some 19, some (15, true), .bin .eql .sc (.t 18) (.c (.int .i64 0))⟩,
    ⟨some 20, none, .pick (.t 15) (.t 19) (.c (.bool false))⟩,
    ⟨some 21, none, .mv false (.t 20)⟩,
    ⟨some 22, some (21, true), .mv false (.t 1)⟩,
    ⟨some 23, some (21, true), .call (.f f_hourglasslaw17_k) [(.c (.str [109]))]⟩,
    ⟨some 24, some (21, true), .call (.f f_route_Table_Of) [(.t 22), (.t 23)]⟩,
    ⟨some 25, some (21, true), .bin .eql .sc (.t 24) (.c (.int .i64 1))⟩,
    ⟨some 26, none, .pick (.t 21) (.t 25) (.c (.bool false))⟩,
    ⟨some 27, none, .mv false (.t 26)⟩,
    ⟨some 28, some (27, true), .mv false (.t 1)⟩,
    ⟨some 29, some (27, true), .call (.f f_route_Table_Nodes) [(.t 28)]⟩,
    ⟨some 30, some (27, true), .bin .eql .sc (.t 29) (.c (.int .i64 2))⟩,
    ⟨some 31, none, .pick (.t 27) (.t 30) (.c (.bool false))⟩,
    ⟨some 0, none, .mv true (.t 31)⟩]) .ret) is fr σ K := (rfl)
def C_hourglasslaw17_awake_k2 (f_hourglasslaw17_k f_route_New f_route_Table_Of f_route_Table_Nodes : FuncId) : LCode := (.seq (.sq [⟨some 4, none, .call (.f f_hourglasslaw17_k) [(.c (.str [109]))]⟩,
    ⟨some 5, none, .bsl ⟨16, true, 16, (.agg zk)⟩ 1 [(0, (.t 4))]⟩,
    ⟨some 6, none, .call (.f f_route_New) [(.t 5)]⟩,
    ⟨some 3, none, .mv false (.t 6)⟩,
    ⟨some 7, none, .ext (.t 3) 0⟩,
    ⟨some 8, none, .ext (.t 3) 1⟩,
    ⟨some 1, none, .mv true (.t 7)⟩,
    ⟨some 2, none, .mv true (.t 8)⟩]) (C_hourglasslaw17_awake_k1 f_hourglasslaw17_k f_route_New f_route_Table_Of f_route_Table_Nodes))
theorem u_C_hourglasslaw17_awake_k2 {C : CallW} {P : Program} {rd : Bool} {is : List Item} {fr : Fr} {σ : St} {K : KC} (f_hourglasslaw17_k f_route_New f_route_Table_Of f_route_Table_Nodes : FuncId) : runC C P rd (C_hourglasslaw17_awake_k2 f_hourglasslaw17_k f_route_New f_route_Table_Of f_route_Table_Nodes) is fr σ K = runC C P rd (.seq (.sq [⟨some 4, none, .call (.f f_hourglasslaw17_k) [(.c (.str [109]))]⟩,
    ⟨some 5, none, .bsl ⟨16, true, 16, (.agg zk)⟩ 1 [(0, (.t 4))]⟩,
    ⟨some 6, none, .call (.f f_route_New) [(.t 5)]⟩,
    ⟨some 3, none, .mv false (.t 6)⟩,
    ⟨some 7, none, .ext (.t 3) 0⟩,
    ⟨some 8, none, .ext (.t 3) 1⟩,
    ⟨some 1, none, .mv true (.t 7)⟩,
    ⟨some 2, none, .mv true (.t 8)⟩]) (C_hourglasslaw17_awake_k1 f_hourglasslaw17_k f_route_New f_route_Table_Of f_route_Table_Nodes)) is fr σ K := (rfl)
def C_hourglasslaw17_awake (f_hourglasslaw17_k f_route_New f_route_Table_Of f_route_Table_Nodes : FuncId) : LFn :=
  ⟨32, [.t 0], (.seq (.sq [⟨some 0, none, .mv true (.c (.bool false))⟩]) (C_hourglasslaw17_awake_k2 f_hourglasslaw17_k f_route_New f_route_Table_Of f_route_Table_Nodes))⟩

def C_hourglasslaw17_long_k1 : LCode := (.sq [⟨some 11, none, .mv false (.t 3)⟩,
        ⟨some 12, none, .bin .add .sc (.t 11) (.c (.int .i64 1))⟩,
        ⟨some 3, none, .mv true (.t 12)⟩])
theorem u_C_hourglasslaw17_long_k1 {C : CallW} {P : Program} {rd : Bool} {is : List Item} {fr : Fr} {σ : St} {K : KC} : runC C P rd C_hourglasslaw17_long_k1 is fr σ K = runC C P rd (.sq [⟨some 11, none, .mv false (.t 3)⟩,
        ⟨some 12, none, .bin .add .sc (.t 11) (.c (.int .i64 1))⟩,
        ⟨some 3, none, .mv true (.t 12)⟩]) is fr σ K := (rfl)
def C_hourglasslaw17_long_k2 : LCode := (.seq (.block 1 (.seq (.sq [⟨some 13, none, .mv false (.t 0)⟩,
          ⟨some 14, none, .mv false (.t 3)⟩,
          ⟨some 15, none, .ixa (.sl 18) (.t 13) (.t 14)⟩,
          ⟨some 16, none, .shift 16 (.t 15)⟩,
          ⟨some 17, none, .load1 false (.t 16)⟩,
          ⟨some 18, none, .len .str (.t 17)⟩,
          ⟨some 19, none, .bin .gtr .sc (.t 18) (.c (.int .i64 250))⟩]) (.cond (.t 19) (.seq (.sq [⟨some 2, none, .mv true (.c (.bool true))⟩]) .ret) .skip))) C_hourglasslaw17_long_k1)
theorem u_C_hourglasslaw17_long_k2 {C : CallW} {P : Program} {rd : Bool} {is : List Item} {fr : Fr} {σ : St} {K : KC} : runC C P rd C_hourglasslaw17_long_k2 is fr σ K = runC C P rd (.seq (.block 1 (.seq (.sq [⟨some 13, none, .mv false (.t 0)⟩,
          ⟨some 14, none, .mv false (.t 3)⟩,
          ⟨some 15, none, .ixa (.sl 18) (.t 13) (.t 14)⟩,
          ⟨some 16, none, .shift 16 (.t 15)⟩,
          ⟨some 17, none, .load1 false (.t 16)⟩,
          ⟨some 18, none, .len .str (.t 17)⟩,
          ⟨some 19, none, .bin .gtr .sc (.t 18) (.c (.int .i64 250))⟩]) (.cond (.t 19) (.seq (.sq [⟨some 2, none, .mv true (.c (.bool true))⟩]) .ret) .skip))) C_hourglasslaw17_long_k1) is fr σ K := (rfl)
def C_hourglasslaw17_long_k3 : LCode := (.seq (.seq (.sq [⟨some 7, none, .mv false (.t 3)⟩,
        ⟨some 8, none, .mv false (.t 0)⟩,
        ⟨some 9, none, .len .sl (.t 8)⟩,
        ⟨some 10, none, .bin .lss .sc (.t 7) (.t 9)⟩]) (.cond (.t 10) .skip (.exit 0))) C_hourglasslaw17_long_k2)
theorem u_C_hourglasslaw17_long_k3 {C : CallW} {P : Program} {rd : Bool} {is : List Item} {fr : Fr} {σ : St} {K : KC} : runC C P rd C_hourglasslaw17_long_k3 is fr σ K = runC C P rd (.seq (.seq (.sq [⟨some 7, none, .mv false (.t 3)⟩,
        ⟨some 8, none, .mv false (.t 0)⟩,
        ⟨some 9, none, .len .sl (.t 8)⟩,
        ⟨some 10, none, .bin .lss .sc (.t 7) (.t 9)⟩]) (.cond (.t 10) .skip (.exit 0))) C_hourglasslaw17_long_k2) is fr σ K := (rfl)
def C_hourglasslaw17_long_k4 : LCode := (.block 0 (.loop [true, false, false, true, false, false, false, false, false, false, false, false, false, false, false, false, false, false, false, false] C_hourglasslaw17_long_k3))
theorem u_C_hourglasslaw17_long_k4 {C : CallW} {P : Program} {rd : Bool} {is : List Item} {fr : Fr} {σ : St} {K : KC} : runC C P rd C_hourglasslaw17_long_k4 is fr σ K = runC C P rd (.block 0 (.loop [true, false, false, true, false, false, false, false, false, false, false, false, false, false, false, false, false, false, false, false] C_hourglasslaw17_long_k3)) is fr σ K := (rfl)
def C_hourglasslaw17_long_k5 : LCode := (.seq (.seq (.sq [⟨some 3, none, .mv true (.c (.int .i64 0))⟩]) C_hourglasslaw17_long_k4) (.seq (.sq [⟨some 2, none, .mv true (.c (.bool false))⟩]) .ret))
theorem u_C_hourglasslaw17_long_k5 {C : CallW} {P : Program} {rd : Bool} {is : List Item} {fr : Fr} {σ : St} {K : KC} : runC C P rd C_hourglasslaw17_long_k5 is fr σ K = runC C P rd (.seq (.seq (.sq [⟨some 3, none, .mv true (.c (.int .i64 0))⟩]) C_hourglasslaw17_long_k4) (.seq (.sq [⟨some 2, none, .mv true (.c (.bool false))⟩]) .ret)) is fr σ K := (rfl)
def C_hourglasslaw17_long_k6 : LCode := (.seq (.seq (.sq [⟨some 4, none, .mv false (.t 0)⟩,
    ⟨some 5, none, .len .sl (.t 4)⟩,
    ⟨some 6, none, .bin .gtr .sc (.t 5) (.c (.int .i64 20))⟩]) (.cond (.t 6) (.seq (.sq [⟨some 2, none, .mv true (.c (.bool true))⟩]) .ret) .skip)) C_hourglasslaw17_long_k5)
theorem u_C_hourglasslaw17_long_k6 {C : CallW} {P : Program} {rd : Bool} {is : List Item} {fr : Fr} {σ : St} {K : KC} : runC C P rd C_hourglasslaw17_long_k6 is fr σ K = runC C P rd (.seq (.seq (.sq [⟨some 4, none, .mv false (.t 0)⟩,
    ⟨some 5, none, .len .sl (.t 4)⟩,
    ⟨some 6, none, .bin .gtr .sc (.t 5) (.c (.int .i64 20))⟩]) (.cond (.t 6) (.seq (.sq [⟨some 2, none, .mv true (.c (.bool true))⟩]) .ret) .skip)) C_hourglasslaw17_long_k5) is fr σ K := (rfl)
def C_hourglasslaw17_long : LFn :=
  ⟨20, [.t 2], (.seq (.sq [⟨some 2, none, .mv true (.c (.bool false))⟩]) C_hourglasslaw17_long_k6)⟩

def C_hourglasslaw17_RouteWhole_k1 (f_hourglasslaw17_awake f_route_New f_hourglassref10_Good f_route_Table_Of f_route_Table_Nodes f_hourglassref10_Cmp f_route_Table_Cover f_hourglassref10_Within : FuncId) : LCode := (.seq (.tree (.rd ⟨some 86, none, .mv false (.t 17)⟩ 0 false (.rd ⟨some 87, none, .bin .gtr .sc (.t 86) (.c (.int .i64 0))⟩ 1 false (.rd ⟨some 88, none, .mv false (.t 87)⟩ 2 false (.rd ⟨some 89, some (88, true), .mv false (.t 15)⟩ 3 false (.rd ⟨some 90, some (88, true), .mv false (.t 17)⟩ 4 false (.rd ⟨some 91, some (88, true), .ixa (.sl 1) (.t 89) (.t 90)⟩ 5 false (.rd ⟨some 92, some (88, true), .load1 false (.t 91)⟩ 6 false (.rd ⟨some 93, some (88, true), .mv false (.t 15)⟩ 7 false (.rd ⟨some 94, some (88, true), .mv false (.t 17)⟩ 8 false (.rd ⟨some 95, some (88, true), .bin .sub .sc (.t 94) (.c (.int .i64 1))⟩ 9 false (.rd ⟨some 96, some (88, true), .ixa (.sl 1) (.t 93) (.t 95)⟩ 10 false (.rd ⟨some 97, some (88, true), .load1 false (.t 96)⟩ 11 false (.rd ⟨some 98, some (88, true), .bin .add .sc (.t 97) (.c (.int .i64 1))⟩ 12 false (.rd ⟨some 99, some (88, true), .bin .neq .sc (.t 92) (.t 98)⟩ 13 false (.rd ⟨some 100, none, .pick (.t 88) (.t 99) (.c (.bool false))⟩ 14 false .done)))))))))))))))) (.cond (.t 100) (.seq (.sq [⟨some 10, none, .mv true (.c (.bool false))⟩]) .ret) .skip))
theorem u_C_hourglasslaw17_RouteWhole_k1 {C : CallW} {P : Program} {rd : Bool} {is : List Item} {fr : Fr} {σ : St} {K : KC} (f_hourglasslaw17_awake f_route_New f_hourglassref10_Good f_route_Table_Of f_route_Table_Nodes f_hourglassref10_Cmp f_route_Table_Cover f_hourglassref10_Within : FuncId) : runC C P rd (C_hourglasslaw17_RouteWhole_k1 f_hourglasslaw17_awake f_route_New f_hourglassref10_Good f_route_Table_Of f_route_Table_Nodes f_hourglassref10_Cmp f_route_Table_Cover f_hourglassref10_Within) is fr σ K = runC C P rd (.seq (.tree (.rd ⟨some 86, none, .mv false (.t 17)⟩ 0 false (.rd ⟨some 87, none, .bin .gtr .sc (.t 86) (.c (.int .i64 0))⟩ 1 false (.rd ⟨some 88, none, .mv false (.t 87)⟩ 2 false (.rd ⟨some 89, some (88, true), .mv false (.t 15)⟩ 3 false (.rd ⟨some 90, some (88, true), .mv false (.t 17)⟩ 4 false (.rd ⟨some 91, some (88, true), .ixa (.sl 1) (.t 89) (.t 90)⟩ 5 false (.rd ⟨some 92, some (88, true), .load1 false (.t 91)⟩ 6 false (.rd ⟨some 93, some (88, true), .mv false (.t 15)⟩ 7 false (.rd ⟨some 94, some (88, true), .mv false (.t 17)⟩ 8 false (.rd ⟨some 95, some (88, true), .bin .sub .sc (.t 94) (.c (.int .i64 1))⟩ 9 false (.rd ⟨some 96, some (88, true), .ixa (.sl 1) (.t 93) (.t 95)⟩ 10 false (.rd ⟨some 97, some (88, true), .load1 false (.t 96)⟩ 11 false (.rd ⟨some 98, some (88, true), .bin .add .sc (.t 97) (.c (.int .i64 1))⟩ 12 false (.rd ⟨some 99, some (88, true), .bin .neq .sc (.t 92) (.t 98)⟩ 13 false (.rd ⟨some 100, none, .pick (.t 88) (.t 99) (.c (.bool false))⟩ 14 false .done)))))))))))))))) (.cond (.t 100) (.seq (.sq [⟨some 10, none, .mv true (.c (.bool false))⟩]) .ret) .skip)) is fr σ K := (rfl)
def C_hourglasslaw17_RouteWhole_k2 (f_hourglasslaw17_awake f_route_New f_hourglassref10_Good f_route_Table_Of f_route_Table_Nodes f_hourglassref10_Cmp f_route_Table_Cover f_hourglassref10_Within : FuncId) : LCode := (.sq [⟨some 75, none, .mv false (.t 17)⟩,
        ⟨some 76, none, .bin .add .sc (.t 75) (.c (.int .i64 1))⟩,
        ⟨some 17, none, .mv true (.t 76)⟩])
theorem u_C_hourglasslaw17_RouteWhole_k2 {C : CallW} {P : Program} {rd : Bool} {is : List Item} {fr : Fr} {σ : St} {K : KC} (f_hourglasslaw17_awake f_route_New f_hourglassref10_Good f_route_Table_Of f_route_Table_Nodes f_hourglassref10_Cmp f_route_Table_Cover f_hourglassref10_Within : FuncId) : runC C P rd (C_hourglasslaw17_RouteWhole_k2 f_hourglasslaw17_awake f_route_New f_hourglassref10_Good f_route_Table_Of f_route_Table_Nodes f_hourglassref10_Cmp f_route_Table_Cover f_hourglassref10_Within) is fr σ K = runC C P rd (.sq [⟨some 75, none, .mv false (.t 17)⟩,
        ⟨some 76, none, .bin .add .sc (.t 75) (.c (.int .i64 1))⟩,
        ⟨some 17, none, .mv true (.t 76)⟩]) is fr σ K := (rfl)
def C_hourglasslaw17_RouteWhole_k3 (f_hourglasslaw17_awake f_route_New f_hourglassref10_Good f_route_Table_Of f_route_Table_Nodes f_hourglassref10_Cmp f_route_Table_Cover f_hourglassref10_Within : FuncId) : LCode := (.seq (.block 1 (.seq (.sq [⟨some 77, none, .mv false (.t 16)⟩,
          ⟨some 78, none, .mv false (.t 77)⟩,
          ⟨some 79, some (78, false), .mv false (.t 15)⟩,
          ⟨some 80, some (78, false), .mv false (.t 17)⟩,
          ⟨some 81, some (78, false), .ixa (.sl 1) (.t 79) (.t 80)⟩,
          ⟨some 82, some (78, false), .load1 false (.t 81)⟩,
          ⟨some 83, some (78, false), .mv false (.t 13)⟩,
          ⟨some 84, some (78, false), .bin .eql .sc (.t 82) (.t 83)⟩,
          ⟨some 85, none, .pick (.t 78) (.c (.bool true)) (.t 84)⟩,
          ⟨some 16, none, .mv true (.t 85)⟩]) (C_hourglasslaw17_RouteWhole_k1 f_hourglasslaw17_awake f_route_New f_hourglassref10_Good f_route_Table_Of f_route_Table_Nodes f_hourglassref10_Cmp f_route_Table_Cover f_hourglassref10_Within))) (C_hourglasslaw17_RouteWhole_k2 f_hourglasslaw17_awake f_route_New f_hourglassref10_Good f_route_Table_Of f_route_Table_Nodes f_hourglassref10_Cmp f_route_Table_Cover f_hourglassref10_Within))
theorem u_C_hourglasslaw17_RouteWhole_k3 {C : CallW} {P : Program} {rd : Bool} {is : List Item} {fr : Fr} {σ : St} {K : KC} (f_hourglasslaw17_awake f_route_New f_hourglassref10_Good f_route_Table_Of f_route_Table_Nodes f_hourglassref10_Cmp f_route_Table_Cover f_hourglassref10_Within : FuncId) : runC C P rd (C_hourglasslaw17_RouteWhole_k3 f_hourglasslaw17_awake f_route_New f_hourglassref10_Good f_route_Table_Of f_route_Table_Nodes f_hourglassref10_Cmp f_route_Table_Cover f_hourglassref10_Within) is fr σ K = runC C P rd (.seq (.block 1 (.seq (.sq [⟨some 77, none, .mv false (.t 16)⟩,
          ⟨some 78, none, .mv false (.t 77)⟩,
          ⟨some 79, some (78, false), .mv false (.t 15)⟩,
          ⟨some 80, some (78, false), .mv false (.t 17)⟩,
          ⟨some 81, some (78, false), .ixa (.sl 1) (.t 79) (.t 80)⟩,
          ⟨some 82, some (78, false), .load1 false (.t 81)⟩,
          ⟨some 83, some (78, false), .mv false (.t 13)⟩,
          ⟨some 84, some (78, false), .bin .eql .sc (.t 82) (.t 83)⟩,
          ⟨some 85, none, .pick (.t 78) (.c (.bool true)) (.t 84)⟩,
          ⟨some 16, none, .mv true (.t 85)⟩]) (C_hourglasslaw17_RouteWhole_k1 f_hourglasslaw17_awake f_route_New f_hourglassref10_Good f_route_Table_Of f_route_Table_Nodes f_hourglassref10_Cmp f_route_Table_Cover f_hourglassref10_Within))) (C_hourglasslaw17_RouteWhole_k2 f_hourglasslaw17_awake f_route_New f_hourglassref10_Good f_route_Table_Of f_route_Table_Nodes f_hourglassref10_Cmp f_route_Table_Cover f_hourglassref10_Within)) is fr σ K := (rfl)
def C_hourglasslaw17_RouteWhole_k4 (f_hourglasslaw17_awake f_route_New f_hourglassref10_Good f_route_Table_Of f_route_Table_Nodes f_hourglassref10_Cmp f_route_Table_Cover f_hourglassref10_Within : FuncId) : LCode := (.seq (.seq (.sq [⟨some 71, none, .mv false (.t 17)⟩,
        ⟨some 72, none, .mv false (.t 15)⟩,
        ⟨some 73, none, .len .sl (.t 72)⟩,
        ⟨some 74, none, .bin .lss .sc (.t 71) (.t 73)⟩]) (.cond (.t 74) .skip (.exit 0))) (C_hourglasslaw17_RouteWhole_k3 f_hourglasslaw17_awake f_route_New f_hourglassref10_Good f_route_Table_Of f_route_Table_Nodes f_hourglassref10_Cmp f_route_Table_Cover f_hourglassref10_Within))
theorem u_C_hourglasslaw17_RouteWhole_k4 {C : CallW} {P : Program} {rd : Bool} {is : List Item} {fr : Fr} {σ : St} {K : KC} (f_hourglasslaw17_awake f_route_New f_hourglassref10_Good f_route_Table_Of f_route_Table_Nodes f_hourglassref10_Cmp f_route_Table_Cover f_hourglassref10_Within : FuncId) : runC C P rd (C_hourglasslaw17_RouteWhole_k4 f_hourglasslaw17_awake f_route_New f_hourglassref10_Good f_route_Table_Of f_route_Table_Nodes f_hourglassref10_Cmp f_route_Table_Cover f_hourglassref10_Within) is fr σ K = runC C P rd (.seq (.seq (.sq [⟨some 71, none, .mv false (.t 17)⟩,
        ⟨some 72, none, .mv false (.t 15)⟩,
        ⟨some 73, none, .len .sl (.t 72)⟩,
        ⟨some 74, none, .bin .lss .sc (.t 71) (.t 73)⟩]) (.cond (.t 74) .skip (.exit 0))) (C_hourglasslaw17_RouteWhole_k3 f_hourglasslaw17_awake f_route_New f_hourglassref10_Good f_route_Table_Of f_route_Table_Nodes f_hourglassref10_Cmp f_route_Table_Cover f_hourglassref10_Within)) is fr σ K := (rfl)
def C_hourglasslaw17_RouteWhole_k5 (f_hourglasslaw17_awake f_route_New f_hourglassref10_Good f_route_Table_Of f_route_Table_Nodes f_hourglassref10_Cmp f_route_Table_Cover f_hourglassref10_Within : FuncId) : LCode := (.block 0 (.loop [false, false, false, false, false, false, true, false, true, true, false, false, false, true, false, true, true, true, false, false, false, false, false, false, false, false, false, false, false, false, false, false, false, false, false, false, false, false, false, false, false, false, false, false, false, false, false, false, false, false, false, false, false, false, false, false, false, false, false, false, false, false, false, false, false, false, false, false, false, false, false, false, false, false, false, false, false, false, false, false, false, false, false, false, false, false, false, false, false, false, false, false, false, false, false, false, false, false, false, false, false, false, false, false, false, false, false, false, false] (C_hourglasslaw17_RouteWhole_k4 f_hourglasslaw17_awake f_route_New f_hourglassref10_Good f_route_Table_Of f_route_Table_Nodes f_hourglassref10_Cmp f_route_Table_Cover f_hourglassref10_Within)))
theorem u_C_hourglasslaw17_RouteWhole_k5 {C : CallW} {P : Program} {rd : Bool} {is : List Item} {fr : Fr} {σ : St} {K : KC} (f_hourglasslaw17_awake f_route_New f_hourglassref10_Good f_route_Table_Of f_route_Table_Nodes f_hourglassref10_Cmp f_route_Table_Cover f_hourglassref10_Within : FuncId) : runC C P rd (C_hourglasslaw17_RouteWhole_k5 f_hourglasslaw17_awake f_route_New f_hourglassref10_Good f_route_Table_Of f_route_Table_Nodes f_hourglassref10_Cmp f_route_Table_Cover f_hourglassref10_Within) is fr σ K = runC C P rd (.block 0 (.loop [false, false, false, false, false, false, true, false, true, true, false, false, false, true, false, true, true, true, false, false, false, false, false, false, false, false, false, false, false, false, false, false, false, false, false, false, false, false, false, false, false, false, false, false, false, false, false, false, false, false, false, false, false, false, false, false, false, false, false, false, false, false, false, false, false, false, false, false, false, false, false, false, false, false, false, false, false, false, false, false, false, false, false, false, false, false, false, false, false, false, false, false, false, false, false, false, false, false, false, false, false, false, false, false, false, false, false, false, false] (C_hourglasslaw17_RouteWhole_k4 f_hourglasslaw17_awake f_route_New f_hourglassref10_Good f_route_Table_Of f_route_Table_Nodes f_hourglassref10_Cmp f_route_Table_Cover f_hourglassref10_Within))) is fr σ K := (rfl)
def C_hourglasslaw17_RouteWhole_k6 (f_hourglasslaw17_awake f_route_New f_hourglassref10_Good f_route_Table_Of f_route_Table_Nodes f_hourglassref10_Cmp f_route_Table_Cover f_hourglassref10_Within : FuncId) : LCode := (.seq (.sq [⟨some 101, none, .mv false (.t 16)⟩,
    ⟨some 102, none, .mv false (.t 101)⟩,
    ⟨some 103, some (102, false), .loadA 16 (.t 6)⟩,
    ⟨some 104, some (102, false), .loadA 16 (.t 8)⟩,
    ⟨some 105, some (102, false), .loadA 16 (.t 9)⟩,
    ⟨some 106, some (102, false), .call (.f f_hourglassref10_Within) [(.t 103), (.t 104), (.t 105)]⟩,
    ⟨some 107, some (102, false), .un .not (.t 106)⟩,
    ⟨some 108, none, .pick (.t 102) (.c (.bool true)) (.t 107)⟩,
    ⟨some 10, none, .mv true (.t 108)⟩]) .ret)
theorem u_C_hourglasslaw17_RouteWhole_k6 {C : CallW} {P : Program} {rd : Bool} {is : List Item} {fr : Fr} {σ : St} {K : KC} (f_hourglasslaw17_awake f_route_New f_hourglassref10_Good f_route_Table_Of f_route_Table_Nodes f_hourglassref10_Cmp f_route_Table_Cover f_hourglassref10_Within : FuncId) : runC C P rd (C_hourglasslaw17_RouteWhole_k6 f_hourglasslaw17_awake f_route_New f_hourglassref10_Good f_route_Table_Of f_route_Table_Nodes f_hourglassref10_Cmp f_route_Table_Cover f_hourglassref10_Within) is fr σ K = runC C P rd (.seq (.sq [⟨some 101, none, .mv false (.t 16)⟩,
    ⟨some 102, none, .mv false (.t 101)⟩,
    ⟨some 103, some (102, false), .loadA 16 (.t 6)⟩,
    ⟨some 104, some (102, false), .loadA 16 (.t 8)⟩,
    ⟨some 105, some (102, false), .loadA 16 (.t 9)⟩,
    ⟨some 106, some (102, false), .call (.f f_hourglassref10_Within) [(.t 103), (.t 104), (.t 105)]⟩,
    ⟨some 107, some (102, false), .un .not (.t 106)⟩,
    ⟨some 108, none, .pick (.t 102) (.c (.bool true)) (.t 107)⟩,
    ⟨some 10, none, .mv true (.t 108)⟩]) .ret) is fr σ K := (rfl)
def C_hourglasslaw17_RouteWhole_k7 (f_hourglasslaw17_awake f_route_New f_hourglassref10_Good f_route_Table_Of f_route_Table_Nodes f_hourglassref10_Cmp f_route_Table_Cover f_hourglassref10_Within : FuncId) : LCode := (.seq (.seq (.sq [⟨some 17, none, .mv true (.c (.int .i64 0))⟩]) (C_hourglasslaw17_RouteWhole_k5 f_hourglasslaw17_awake f_route_New f_hourglassref10_Good f_route_Table_Of f_route_Table_Nodes f_hourglassref10_Cmp f_route_Table_Cover f_hourglassref10_Within)) (C_hourglasslaw17_RouteWhole_k6 f_hourglasslaw17_awake f_route_New f_hourglassref10_Good f_route_Table_Of f_route_Table_Nodes f_hourglassref10_Cmp f_route_Table_Cover f_hourglassref10_Within))
theorem u_C_hourglasslaw17_RouteWhole_k7 {C : CallW} {P : Program} {rd : Bool} {is : List Item} {fr : Fr} {σ : St} {K : KC} (f_hourglasslaw17_awake f_route_New f_hourglassref10_Good f_route_Table_Of f_route_Table_Nodes f_hourglassref10_Cmp f_route_Table_Cover f_hourglassref10_Within : FuncId) : runC C P rd (C_hourglasslaw17_RouteWhole_k7 f_hourglasslaw17_awake f_route_New f_hourglassref10_Good f_route_Table_Of f_route_Table_Nodes f_hourglassref10_Cmp f_route_Table_Cover f_hourglassref10_Within) is fr σ K = runC C P rd (.seq (.seq (.sq [⟨some 17, none, .mv true (.c (.int .i64 0))⟩]) (C_hourglasslaw17_RouteWhole_k5 f_hourglasslaw17_awake f_route_New f_hourglassref10_Good f_route_Table_Of f_route_Table_Nodes f_hourglassref10_Cmp f_route_Table_Cover f_hourglassref10_Within)) (C_hourglasslaw17_RouteWhole_k6 f_hourglasslaw17_awake f_route_New f_hourglassref10_Good f_route_Table_Of f_route_Table_Nodes f_hourglassref10_Cmp f_route_Table_Cover f_hourglassref10_Within)) is fr σ K := (rfl)
def C_hourglasslaw17_RouteWhole_k8 (f_hourglasslaw17_awake f_route_New f_hourglassref10_Good f_route_Table_Of f_route_Table_Nodes f_hourglassref10_Cmp f_route_Table_Cover f_hourglassref10_Within : FuncId) : LCode := (.seq (.sq [⟨some 16, none, .mv true (.c (.bool false))⟩]) (C_hourglasslaw17_RouteWhole_k7 f_hourglasslaw17_awake f_route_New f_hourglassref10_Good f_route_Table_Of f_route_Table_Nodes f_hourglassref10_Cmp f_route_Table_Cover f_hourglassref10_Within))
theorem u_C_hourglasslaw17_RouteWhole_k8 {C : CallW} {P : Program} {rd : Bool} {is : List Item} {fr : Fr} {σ : St} {K : KC} (f_hourglasslaw17_awake f_route_New f_hourglassref10_Good f_route_Table_Of f_route_Table_Nodes f_hourglassref10_Cmp f_route_Table_Cover f_hourglassref10_Within : FuncId) : runC C P rd (C_hourglasslaw17_RouteWhole_k8 f_hourglasslaw17_awake f_route_New f_hourglassref10_Good f_route_Table_Of f_route_Table_Nodes f_hourglassref10_Cmp f_route_Table_Cover f_hourglassref10_Within) is fr σ K = runC C P rd (.seq (.sq [⟨some 16, none, .mv true (.c (.bool false))⟩]) (C_hourglasslaw17_RouteWhole_k7 f_hourglasslaw17_awake f_route_New f_hourglassref10_Good f_route_Table_Of f_route_Table_Nodes f_hourglassref10_Cmp f_route_Table_Cover f_hourglassref10_Within)) is fr σ K := (rfl)
def C_hourglasslaw17_RouteWhole_k9 (f_hourglasslaw17_awake f_route_New f_hourglassref10_Good f_route_Table_Of f_route_Table_Nodes f_hourglassref10_Cmp f_route_Table_Cover f_hourglassref10_Within : FuncId) : LCode := (.seq (.sq [⟨some 67, none, .mv false (.t 11)⟩,
    ⟨some 68, none, .loadA 16 (.t 8)⟩,
    ⟨some 69, none, .loadA 16 (.t 9)⟩,
    ⟨some 70, none, .call (.f f_route_Table_Cover) [(.t 67), (.t 68), (.t 69)]⟩,
    ⟨some 15, none, .mv true (.t 70)⟩]) (C_hourglasslaw17_RouteWhole_k8 f_hourglasslaw17_awake f_route_New f_hourglassref10_Good f_route_Table_Of f_route_Table_Nodes f_hourglassref10_Cmp f_route_Table_Cover f_hourglassref10_Within))
theorem u_C_hourglasslaw17_RouteWhole_k9 {C : CallW} {P : Program} {rd : Bool} {is : List Item} {fr : Fr} {σ : St} {K : KC} (f_hourglasslaw17_awake f_route_New f_hourglassref10_Good f_route_Table_Of f_route_Table_Nodes f_hourglassref10_Cmp f_route_Table_Cover f_hourglassref10_Within : FuncId) : runC C P rd (C_hourglasslaw17_RouteWhole_k9 f_hourglasslaw17_awake f_route_New f_hourglassref10_Good f_route_Table_Of f_route_Table_Nodes f_hourglassref10_Cmp f_route_Table_Cover f_hourglassref10_Within) is fr σ K = runC C P rd (.seq (.sq [⟨some 67, none, .mv false (.t 11)⟩,
    ⟨some 68, none, .loadA 16 (.t 8)⟩,
    ⟨some 69, none, .loadA 16 (.t 9)⟩,
    ⟨some 70, none, .call (.f f_route_Table_Cover) [(.t 67), (.t 68), (.t 69)]⟩,
    ⟨some 15, none, .mv true (.t 70)⟩]) (C_hourglasslaw17_RouteWhole_k8 f_hourglasslaw17_awake f_route_New f_hourglassref10_Good f_route_Table_Of f_route_Table_Nodes f_hourglassref10_Cmp f_route_Table_Cover f_hourglassref10_Within)) is fr σ K := (rfl)
def C_hourglasslaw17_RouteWhole_k10 (f_hourglasslaw17_awake f_route_New f_hourglassref10_Good f_route_Table_Of f_route_Table_Nodes f_hourglassref10_Cmp f_route_Table_Cover f_hourglassref10_Within : FuncId) : LCode := (.seq (.seq (.sq [⟨some 48, none, .mv false (.t 13)⟩,
    ⟨some 49, none, .bin .lss .sc (.t 48) (.c (.int .i64 0))⟩,
    ⟨some 50, none, .mv false (.t 49)⟩,
    ⟨some 51, some (50, false), .mv false (.t 13)⟩,
    ⟨some 52, some (50, false), .mv false (.t 11)⟩,
    ⟨some 53, some (50, false), .call (.f f_route_Table_Nodes) [(.t 52)]⟩,
    ⟨some 54, some (50, false), .bin .geq .sc (.t 51) (.t 53)⟩,
    ⟨some 55, none, .pick (.t 50) (.c (.bool true)) (.t 54)⟩,
    ⟨some 56, none, .mv false (.t 55)⟩,
    ⟨some 57, some (56, false), .loadA 16 (.t 6)⟩,
    ⟨some 58, some (56, false), .loadA 16 (.t 7)⟩,
    ⟨some 59, some (56, false), .call (.f f_hourglassref10_Cmp) [(.t 57), (.t 58)]⟩,
    ⟨some 60, some (56, false), .bin .leq .sc (.t 59) (.c (.int .i64 0))⟩,
    ⟨some 61, some (56, false), .mv false (.t 60)⟩,
    ⟨some 62, some (61, true), .mv false (.t 13)⟩,
    ⟨some 63, some (61, true), .mv false (.t 14)⟩,
    ⟨some 64, some (61, true), .bin .gtr .sc (.t 62) (.t 63)⟩,
    ⟨some 65, some (56, false), .pick (.t 61) (.t 64) (.c (.bool false))⟩,
    ⟨some 66, none, .pick (.t 56) (.c (.bool true)) (.t 65)⟩]) (.cond (.t 66) (.seq (.sq [⟨some 10, none, .mv true (.c (.bool false))⟩]) .ret) .skip)) (C_hourglasslaw17_RouteWhole_k9 f_hourglasslaw17_awake f_route_New f_hourglassref10_Good f_route_Table_Of f_route_Table_Nodes f_hourglassref10_Cmp f_route_Table_Cover f_hourglassref10_Within))
theorem u_C_hourglasslaw17_RouteWhole_k10 {C : CallW} {P : Program} {rd : Bool} {is : List Item} {fr : Fr} {σ : St} {K : KC} (f_hourglasslaw17_awake f_route_New f_hourglassref10_Good f_route_Table_Of f_route_Table_Nodes f_hourglassref10_Cmp f_route_Table_Cover f_hourglassref10_Within : FuncId) : runC C P rd (C_hourglasslaw17_RouteWhole_k10 f_hourglasslaw17_awake f_route_New f_hourglassref10_Good f_route_Table_Of f_route_Table_Nodes f_hourglassref10_Cmp f_route_Table_Cover f_hourglassref10_Within) is fr σ K = runC C P rd (.seq (.seq (.sq [⟨some 48, none, .mv false (.t 13)⟩,
    ⟨some 49, none, .bin .lss .sc (.t 48) (.c (.int .i64 0))⟩,
    ⟨some 50, none, .mv false (.t 49)⟩,
    ⟨some 51, some (50, false), .mv false (.t 13)⟩,
    ⟨some 52, some (50, false), .mv false (.t 11)⟩,
    ⟨some 53, some (50, false), .call (.f f_route_Table_Nodes) [(.t 52)]⟩,
    ⟨some 54, some (50, false), .bin .geq .sc (.t 51) (.t 53)⟩,
    ⟨some 55, none, .pick (.t 50) (.c (.bool true)) (.t 54)⟩,
    ⟨some 56, none, .mv false (.t 55)⟩,
    ⟨some 57, some (56, false), .loadA 16 (.t 6)⟩,
    ⟨some 58, some (56, false), .loadA 16 (.t 7)⟩,
    ⟨some 59, some (56, false), .call (.f f_hourglassref10_Cmp) [(.t 57), (.t 58)]⟩,
    ⟨some 60, some (56, false), .bin .leq .sc (.t 59) (.c (.int .i64 0))⟩,
    ⟨some 61, some (56, false), .mv false (.t 60)⟩,
    ⟨some 62, some (61, true), .mv false (.t 13)⟩,
    ⟨some 63, some (61, true), .mv false (.t 14)⟩,
    ⟨some 64, some (61, true), .bin .gtr .sc (.t 62) (.t 63)⟩,
    ⟨some 65, some (56, false), .pick (.t 61) (.t 64) (.c (.bool false))⟩,
    ⟨some 66, none, .pick (.t 56) (.c (.bool true)) (.t 65)⟩]) (.cond (.t 66) (.seq (.sq [⟨some 10, none, .mv true (.c (.bool false))⟩]) .ret) .skip)) (C_hourglasslaw17_RouteWhole_k9 f_hourglasslaw17_awake f_route_New f_hourglassref10_Good f_route_Table_Of f_route_Table_Nodes f_hourglassref10_Cmp f_route_Table_Cover f_hourglassref10_Within)) is fr σ K := (rfl)
def C_hourglasslaw17_RouteWhole_k11 (f_hourglasslaw17_awake f_route_New f_hourglassref10_Good f_route_Table_Of f_route_Table_Nodes f_hourglassref10_Cmp f_route_Table_Cover f_hourglassref10_Within : FuncId) : LCode := (.seq (.tree (.rd ⟨some 42, none, .mv false (.t 11)⟩ 0 false (.rd ⟨some 43, none, .loadA 16 (.t 6)⟩ 1 false (.rd ⟨some 45, none, .mv false (.t 11)⟩ 3 true (.rd ⟨some 46, none, .loadA 16 (.t 7)⟩ 4 true (.mv ⟨some 44, none, .call (.f f_route_Table_Of) [(.t 42), (.t 43)]⟩ [0, 1] (.mv ⟨some 47, none, .call (.f f_route_Table_Of) [(.t 45), (.t 46)]⟩ [0, 1, 2, 3, 4] (.mv ⟨some 13, none, .mv true (.t 44)⟩ [0, 1, 2, 3, 4, 5] (.mv ⟨some 14, none, .mv true (.t 47)⟩ [0, 1, 2, 3, 4, 5, 6] .done .stop) .stop) .stop) .stop)))))) (C_hourglasslaw17_RouteWhole_k10 f_hourglasslaw17_awake f_route_New f_hourglassref10_Good f_route_Table_Of f_route_Table_Nodes f_hourglassref10_Cmp f_route_Table_Cover f_hourglassref10_Within))
theorem u_C_hourglasslaw17_RouteWhole_k11 {C : CallW} {P : Program} {rd : Bool} {is : List Item} {fr : Fr} {σ : St} {K : KC} (f_hourglasslaw17_awake f_route_New f_hourglassref10_Good f_route_Table_Of f_route_Table_Nodes f_hourglassref10_Cmp f_route_Table_Cover f_hourglassref10_Within : FuncId) : runC C P rd (C_hourglasslaw17_RouteWhole_k11 f_hourglasslaw17_awake f_route_New f_hourglassref10_Good f_route_Table_Of f_route_Table_Nodes f_hourglassref10_Cmp f_route_Table_Cover f_hourglassref10_Within) is fr σ K = runC C P rd (.seq (.tree (.rd ⟨some 42, none, .mv false (.t 11)⟩ 0 false (.rd ⟨some 43, none, .loadA 16 (.t 6)⟩ 1 false (.rd ⟨some 45, none, .mv false (.t 11)⟩ 3 true (.rd ⟨some 46, none, .loadA 16 (.t 7)⟩ 4 true (.mv ⟨some 44, none, .call (.f f_route_Table_Of) [(.t 42), (.t 43)]⟩ [0, 1] (.mv ⟨some 47, none, .call (.f f_route_Table_Of) [(.t 45), (.t 46)]⟩ [0, 1, 2, 3, 4] (.mv ⟨some 13, none, .mv true (.t 44)⟩ [0, 1, 2, 3, 4, 5] (.mv ⟨some 14, none, .mv true (.t 47)⟩ [0, 1, 2, 3, 4, 5, 6] .done .stop) .stop) .stop) .stop)))))) (C_hourglasslaw17_RouteWhole_k10 f_hourglasslaw17_awake f_route_New f_hourglassref10_Good f_route_Table_Of f_route_Table_Nodes f_hourglassref10_Cmp f_route_Table_Cover f_hourglassref10_Within)) is fr σ K := (rfl)
def C_hourglasslaw17_RouteWhole_k12 (f_hourglasslaw17_awake f_route_New f_hourglassref10_Good f_route_Table_Of f_route_Table_Nodes f_hourglassref10_Cmp f_route_Table_Cover f_hourglassref10_Within : FuncId) : LCode := (.seq (.seq (.sq [⟨some 25, none, .mv false (.t 12)⟩,
    ⟨some 26, none, .bin .neq .sc (.t 25) (.c (.int .i64 0))⟩,
    ⟨some 27, none, .mv false (.t 26)⟩,
    ⟨some 28, some (27, false), .mv false (.t 0)⟩,
    ⟨some 29, some (27, false), .len .sl (.t 28)⟩,
    ⟨some 30, some (27, false), .bin .gtr .sc (.t 29) (.c (.int .i64 7))⟩,
    ⟨some 31, none, .pick (.t 27) (.c (.bool true)) (.t 30)⟩,
    ⟨some 32, none, .mv false (.t 31)⟩,
    ⟨some 33, some (32, false), .loadA 16 (.t 6)⟩,
    ⟨some 34, some (32, false), .call (.f f_hourglassref10_Good) [(.t 33)]⟩,
    ⟨some 35, some (32, false), .un .not (.t 34)⟩,
    ⟨some 36, none, .pick (.t 32) (.c (.bool true)) (.t 35)⟩,
    ⟨some 37, none, .mv false (.t 36)⟩,
    ⟨some 38, some (37, false), .loadA 16 (.t 7)⟩,
    ⟨some 39, some (37, false), .call (.f f_hourglassref10_Good) [(.t 38)]⟩,
    ⟨some 40, some (37, false), .un .not (.t 39)⟩,
    ⟨some 41, none, .pick (.t 37) (.c (.bool true)) (.t 40)⟩]) (.cond (.t 41) (.seq (.sq [⟨some 10, none, .mv true (.c (.bool true))⟩]) .ret) .skip)) (C_hourglasslaw17_RouteWhole_k11 f_hourglasslaw17_awake f_route_New f_hourglassref10_Good f_route_Table_Of f_route_Table_Nodes f_hourglassref10_Cmp f_route_Table_Cover f_hourglassref10_Within))
theorem u_C_hourglasslaw17_RouteWhole_k12 {C : CallW} {P : Program} {rd : Bool} {is : List Item} {fr : Fr} {σ : St} {K : KC} (f_hourglasslaw17_awake f_route_New f_hourglassref10_Good f_route_Table_Of f_route_Table_Nodes f_hourglassref10_Cmp f_route_Table_Cover f_hourglassref10_Within : FuncId) : runC C P rd (C_hourglasslaw17_RouteWhole_k12 f_hourglasslaw17_awake f_route_New f_hourglassref10_Good f_route_Table_Of f_route_Table_Nodes f_hourglassref10_Cmp f_route_Table_Cover f_hourglassref10_Within) is fr σ K = runC C P rd (.seq (.seq (.sq [⟨some 25, none, .mv false (.t 12)⟩,
    ⟨some 26, none, .bin .neq .sc (.t 25) (.c (.int .i64 0))⟩,
    ⟨some 27, none, .mv false (.t 26)⟩,
    ⟨some 28, some (27, false), .mv false (.t 0)⟩,
    ⟨some 29, some (27, false), .len .sl (.t 28)⟩,
    ⟨some 30, some (27, false), .bin .gtr .sc (.t 29) (.c (.int .i64 7))⟩,
    ⟨some 31, none, .pick (.t 27) (.c (.bool true)) (.t 30)⟩,
    ⟨some 32, none, .mv false (.t 31)⟩,
    ⟨some 33, some (32, false), .loadA 16 (.t 6)⟩,
    ⟨some 34, some (32, false), .call (.f f_hourglassref10_Good) [(.t 33)]⟩,
    ⟨some 35, some (32, false), .un .not (.t 34)⟩,
    ⟨some 36, none, .pick (.t 32) (.c (.bool true)) (.t 35)⟩,
    ⟨some 37, none, .mv false (.t 36)⟩,
    ⟨some 38, some (37, false), .loadA 16 (.t 7)⟩,
    ⟨some 39, some (37, false), .call (.f f_hourglassref10_Good) [(.t 38)]⟩,
    ⟨some 40, some (37, false), .un .not (.t 39)⟩,
    ⟨some 41, none, .pick (.t 37) (.c (.bool true)) (.t 40)⟩]) (.cond (.t 41) (.seq (.sq [⟨some 10, none, .mv true (.c (.bool true))⟩]) .ret) .skip)) (C_hourglasslaw17_RouteWhole_k11 f_hourglasslaw17_awake f_route_New f_hourglassref10_Good f_route_Table_Of f_route_Table_Nodes f_hourglassref10_Cmp f_route_Table_Cover f_hourglassref10_Within)) is fr σ K := (rfl)
def C_hourglasslaw17_RouteWhole_k13 (f_hourglasslaw17_awake f_route_New f_hourglassref10_Good f_route_Table_Of f_route_Table_Nodes f_hourglassref10_Cmp f_route_Table_Cover f_hourglassref10_Within : FuncId) : LCode := (.seq (.sq [⟨some 21, none, .mv false (.t 0)⟩,
    ⟨some 22, none, .call (.f f_route_New) [(.t 21)]⟩,
    ⟨some 20, none, .mv false (.t 22)⟩,
    ⟨some 23, none, .ext (.t 20) 0⟩,
    ⟨some 24, none, .ext (.t 20) 1⟩,
    ⟨some 11, none, .mv true (.t 23)⟩,
    ⟨some 12, none, .mv true (.t 24)⟩]) (C_hourglasslaw17_RouteWhole_k12 f_hourglasslaw17_awake f_route_New f_hourglassref10_Good f_route_Table_Of f_route_Table_Nodes f_hourglassref10_Cmp f_route_Table_Cover f_hourglassref10_Within))
theorem u_C_hourglasslaw17_RouteWhole_k13 {C : CallW} {P : Program} {rd : Bool} {is : List Item} {fr : Fr} {σ : St} {K : KC} (f_hourglasslaw17_awake f_route_New f_hourglassref10_Good f_route_Table_Of f_route_Table_Nodes f_hourglassref10_Cmp f_route_Table_Cover f_hourglassref10_Within : FuncId) : runC C P rd (C_hourglasslaw17_RouteWhole_k13 f_hourglasslaw17_awake f_route_New f_hourglassref10_Good f_route_Table_Of f_route_Table_Nodes f_hourglassref10_Cmp f_route_Table_Cover f_hourglassref10_Within) is fr σ K = runC C P rd (.seq (.sq [⟨some 21, none, .mv false (.t 0)⟩,
    ⟨some 22, none, .call (.f f_route_New) [(.t 21)]⟩,
    ⟨some 20, none, .mv false (.t 22)⟩,
    ⟨some 23, none, .ext (.t 20) 0⟩,
    ⟨some 24, none, .ext (.t 20) 1⟩,
    ⟨some 11, none, .mv true (.t 23)⟩,
    ⟨some 12, none, .mv true (.t 24)⟩]) (C_hourglasslaw17_RouteWhole_k12 f_hourglasslaw17_awake f_route_New f_hourglassref10_Good f_route_Table_Of f_route_Table_Nodes f_hourglassref10_Cmp f_route_Table_Cover f_hourglassref10_Within)) is fr σ K := (rfl)
def C_hourglasslaw17_RouteWhole_k14 (f_hourglasslaw17_awake f_route_New f_hourglassref10_Good f_route_Table_Of f_route_Table_Nodes f_hourglassref10_Cmp f_route_Table_Cover f_hourglassref10_Within : FuncId) : LCode := (.seq (.seq (.sq [⟨some 18, none, .call (.f f_hourglasslaw17_awake) []⟩,
    ⟨some 19, none, .un .not (.t 18)⟩]) (.cond (.t 19) (.seq (.sq [⟨some 10, none, .mv true (.c (.bool false))⟩]) .ret) .skip)) (C_hourglasslaw17_RouteWhole_k13 f_hourglasslaw17_awake f_route_New f_hourglassref10_Good f_route_Table_Of f_route_Table_Nodes f_hourglassref10_Cmp f_route_Table_Cover f_hourglassref10_Within))
theorem u_C_hourglasslaw17_RouteWhole_k14 {C : CallW} {P : Program} {rd : Bool} {is : List Item} {fr : Fr} {σ : St} {K : KC} (f_hourglasslaw17_awake f_route_New f_hourglassref10_Good f_route_Table_Of f_route_Table_Nodes f_hourglassref10_Cmp f_route_Table_Cover f_hourglassref10_Within : FuncId) : runC C P rd (C_hourglasslaw17_RouteWhole_k14 f_hourglasslaw17_awake f_route_New f_hourglassref10_Good f_route_Table_Of f_route_Table_Nodes f_hourglassref10_Cmp f_route_Table_Cover f_hourglassref10_Within) is fr σ K = runC C P rd (.seq (.seq (.sq [⟨some 18, none, .call (.f f_hourglasslaw17_awake) []⟩,
    ⟨some 19, none, .un .not (.t 18)⟩]) (.cond (.t 19) (.seq (.sq [⟨some 10, none, .mv true (.c (.bool false))⟩]) .ret) .skip)) (C_hourglasslaw17_RouteWhole_k13 f_hourglasslaw17_awake f_route_New f_hourglassref10_Good f_route_Table_Of f_route_Table_Nodes f_hourglassref10_Cmp f_route_Table_Cover f_hourglassref10_Within)) is fr σ K := (rfl)
def C_hourglasslaw17_RouteWhole (f_hourglasslaw17_awake f_route_New f_hourglassref10_Good f_route_Table_Of f_route_Table_Nodes f_hourglassref10_Cmp f_route_Table_Cover f_hourglassref10_Within : FuncId) : LFn :=
  ⟨109, [.t 10], (.seq (.sq [⟨some 6, none, .box false false (.t 1)⟩,
    ⟨some 7, none, .box false false (.t 2)⟩,
    ⟨some 8, none, .box false false (.t 3)⟩,
    ⟨some 9, none, .box false false (.t 4)⟩,
    ⟨some 10, none, .mv true (.c (.bool false))⟩]) (C_hourglasslaw17_RouteWhole_k14 f_hourglasslaw17_awake f_route_New f_hourglassref10_Good f_route_Table_Of f_route_Table_Nodes f_hourglassref10_Cmp f_route_Table_Cover f_hourglassref10_Within))⟩

end Go.AM
/-! What the predicate transformer says of a call, the model does: code, bodies, rounds; a call that stands alone. -/
namespace Go.AM
open Go
set_option linter.unusedVariables false
set_option linter.unusedSimpArgs false

section
variable {P : Program} {C : CallW} {cfg : Cfg} {tr : Trees} {f : FuncId} {g g' g0 g1 g2 : G} {w w' w0 : World} {ow ow' ow0 ow1 : Own} {σ σ' : St} {fr fr' : Fr} {tm : Array Value} {a : Act} {ops : Array Oper} {Q : Exit → Act → World → Prop}

theorem anyW_wp {rd : Option Nat} {J : Array Bool → St → Prop} {K : Fr → St → Prop} : ∀ (n : Nat) {listed : Array Bool} {fr : Fr} {σ : St} {g : G} {w : World} {ow : Own} {a : Act}, AnyW (ModelW P) P cfg f ops J K n listed fr σ → Rel g w ow fr a.tmps σ →
    (∀ fr' σ', K fr' σ' → ∀ a' w', Post g w ow a fr' σ' a' w' → Q .normal a' w') → wpAnyIn (FW rd) 0 P .any ops Q n listed a w
  | 0, listed, fr, σ, g, w, ow, a, h, r, hQ => ⟨h.1, hQ _ _ h.2.1 a w (Post.here r rfl)⟩
  | n + 1, listed, fr, σ, g, w, ow, a, h, r, hQ => by
    obtain ⟨_, h1, h2⟩ := h
    refine ⟨fun he => hQ _ _ (h1 he) a w (Post.here r rfl), fun i hi => ?_⟩
    refine stepW_wp (h2 i hi) r fun fr1 σ1 h3 a1 w1 hp => ?_
    obtain ⟨g1, ow1, r1, W1, hd⟩ := hp.out
    exact anyW_wp n h3 r1 fun fr' σ' k a' w' hp' => hQ _ _ k a' w' (hp'.after W1 r.ss.lt r1.own hd)

/-- A loop, at the head of a round. -/
def LoopIn (F : Fence) (n : Nat) (P : Program) (c : Code) (Q : Exit → Act → World → Prop) (a : Act) (w : World) : Prop :=
  ∀ (b : Frame) (k : List Item) (cs : List Frame), b.roundOf = F.round → F.fn b.fn → F.room (cs.length + 1 + n) →
    ∃ e a' w', Q e a' w' ∧ ArrivesIn (Machine.fenced P F) P (lone (b.atR a (.code c :: .inLoop c :: k)) cs w) b k cs e a' w'

theorem loopIn_step {F : Fence} {n : Nat} {c : Code} (h : c.wpIn F n P (Exit.then (LoopIn F n P c Q) Q) a w) : LoopIn F n P c Q a w := by
  intro b k cs hro hb hr
  obtain ⟨e, a₁, w₁, hq, harr⟩ := h b (.inLoop c :: k) cs hro hb hr
  cases e with
  | normal =>
    obtain ⟨e₂, a₂, w₂, hq₂, harr₂⟩ := hq b k cs hro hb hr
    exact ⟨e₂, a₂, w₂, hq₂, .of_steps (StepsIn.trans harr (.one (fenced_calm hb hr rfl) stepR_inLoop)) harr₂⟩
  | exit id => exact ⟨_, a₁, w₁, hq, .pass (x := .inLoop c) rfl (fun _ _ => .inl (by simp)) harr⟩
  | goto l => exact ⟨_, a₁, w₁, hq, .pass (x := .inLoop c) rfl (fun _ _ => .inl (by simp)) harr⟩
  | ret => exact ⟨_, a₁, w₁, hq, .pass (x := .inLoop c) rfl (fun _ _ => .inl (by simp)) harr⟩
  | panic ch => exact ⟨_, a₁, w₁, hq, .pass (x := .inLoop c) rfl (fun _ _ => .inl (by simp)) harr⟩
  | outgrown => exact ⟨_, a₁, w₁, hq, .pass (x := .inLoop c) rfl (fun _ _ => .inl (by simp)) harr⟩

theorem loopIn_wp {F : Fence} {n : Nat} {c : Code} (h : LoopIn F n P c Q a w) : (Code.loop c).wpIn F n P Q a w := by
  intro b k cs hro hb hr
  obtain ⟨e, a', w', hq, harr⟩ := h b k cs hro hb hr
  exact ⟨e, a', w', hq, .of_steps (.one (fenced_calm hb hr rfl) stepR_loop) harr⟩

def BodyW (P : Program) (cfg : Cfg) (tr : Trees) (rd : Option Nat) (f : FuncId) (c : Code) : Prop :=
  ∀ (k : Nat) (fr : Fr) (σ : St) (K : KC), codeW (ModelW P) P cfg tr rd.isSome f k c fr σ K → ∀ (g : G) (w : World) (ow : Own) (a : Act) (Q : Exit → Act → World → Prop), Rel g w ow fr a.tmps σ →
    (∀ e fr' σ', K e fr' σ' → ∀ a' w', Post g w ow a fr' σ' a' w' → Q e.toExit a' w') → c.wpIn (FW rd) 0 P Q a w

theorem loopW_wp {rd : Option Nat} {c : Code} {k : Nat} (hb : BodyW P cfg tr rd f c) {mask : List Bool} {n0 : Nat} {K : KC} {a0 : Act} (hn0 : g0.sb.length = n0) (hlt0 : ∀ b o, g0.wr b o → b < w0.heap.size)
    (hQ : ∀ e fr' σ', K e fr' σ' → ∀ a' w', Post g0 w0 ow0 a0 fr' σ' a' w' → Q e.toExit a' w') (h : loopW (codeW (ModelW P) P cfg tr rd.isSome f k c) mask n0 fr σ K) (r : Rel g w ow fr a.tmps σ) (W : Way g0 w0 ow0 g w ow) (hd : Marks g w w0.heap.size a0.defers a.defers) : (Code.loop c).wpIn (FW rd) 0 P Q a w := by
  refine loopIn_wp (h (fun fr σ => ∀ g w ow a, Rel g w ow fr a.tmps σ → Way g0 w0 ow0 g w ow → Marks g w w0.heap.size a0.defers a.defers → LoopIn (FW rd) 0 P c Q a w) (fun fr σ hu hbody g w ow a r W hd => ?_) g w ow a r W hd)
  have rk := (r.keep mask).cut n0 hu
  have Wk := W.cut hn0
  refine loopIn_step (hb k _ _ _ hbody (g.cut n0) w ow a _ rk fun e fr1 σ1 hk a' w' hp => ?_)
  have hp' : Post g0 w0 ow0 a0 fr1 σ1 a' w' := hp.after Wk hlt0 rk.own hd
  cases e with
  | normal =>
    obtain ⟨g', ow', h1, h2, h3⟩ := hp'.out
    exact hk g' w' ow' a' h1 h2 h3
  | exit id => exact hQ _ _ _ hk a' w' hp'
  | ret => exact hQ _ _ _ hk a' w' hp'

theorem rangeFuncW_wp (hn : ∀ (f : FuncId) (fn : Func), P.funcs[f]? = some fn → fn.name ≠ "runtime.NumGoroutine") {gop : Operand} {ps : Array Tmp} {as bd : Code} {K : KC}
    (h : match AM.seen fr gop with
    | .fn (.func h) first captured => hasBody P h = true ∧
      ModelW P (.fn h) (first ++ [.yield σ.heap.length] ++ captured) { σ with heap := σ.heap ++ [.loop { fid := f, fr := fr.map lasting, params := ps.toList, assign := as, body := bd, ready := true, pending := none }] }
        fun _ σ' => match σ'.heap[σ.heap.length]? with
          | some (.loop l) => (l.ready || l.pending.isSome) = true ∧ K (l.pending.getD .normal) fr { σ' with heap := σ'.heap.set σ.heap.length .dead }
          | _ => False
    | _ => False) (r : Rel g w ow fr a.tmps σ) (hQ : ∀ e fr' σ', K e fr' σ' → ∀ a' w', Post g w ow a fr' σ' a' w' → Q e.toExit a' w') : (Code.rangeFunc gop ps as bd).wpIn (FW none) 0 P Q a w := by
  split at h
  case h_2 => exact h.elim
  rename_i hf first captured hg
  obtain ⟨hbody, hcall⟩ := h
  refine wpIn_rangeFunc fun fn _ => ?_
  -- the record
  obtain ⟨r1, W1⟩ := r.other_new (.deferred (some []))
  let q : Loop := { state := .ready, pending := none, fn, tmps := a.tmps, params := ps, assign := as, body := bd, defers := w.heap.size }
  obtain ⟨g2, r2, W2, hb2, hsb2, hwr2⟩ := r1.newLoop (l := { fid := f, fr := fr.map lasting, params := ps.toList, assign := as, body := bd, ready := true, pending := none }) (q := q) rfl rfl rfl rfl rfl (lasting_VL r1.sf) (under_mem.2 fun x hx => by obtain ⟨y, _, rfl⟩ := List.mem_map.1 hx; exact lasting_low y)
  have hsz : (w.alloc (.deferred (some []))).heap.size = w.heap.size + 1 := by show (w.heap.push _).size = _; simp
  rw [hsz] at hb2
  -- the function
  have hV := r2.sf.seen gop
  rw [hg] at hV
  generalize hgv : a.eval gop = gv at hV
  cases hV with
  | @fn _ _ _ xs ys _ _ v1 v2 _ =>
    have rc := callee_rel (O := fun _ => Nobody) (vs := [.yield σ.heap.length]) (vv := [.func (.yield (w.heap.size + 1)) #[] #[]]) r2 v1 v2 rfl (fun i x hi => by
      cases i with
      | zero => simp at hi; subst hi; exact ⟨_, rfl, PV.of (.yield hb2 .nil)⟩
      | succ i => simp at hi) (fun _ => Free.nobody _ _) (fun _ _ _ _ h => h.elim)
    have hrun := hcall _ _ _ _ rc _ rfl
    have hent : ∀ (args : Array Value) (w : World), (callFunc hf args).run P w = .ok (.enter hf args) w := by
      intro args w
      have hb' : hasBody P hf = true := by simpa using hbody
      unfold hasBody at hb'
      split at hb'
      · rename_i fn' hfn
        have h1 := hn _ _ hfn
        cases hfb : fn'.body with
        | none => rw [hfb] at hb'; cases hb'
        | some c => simp [callFunc, Sem.run, hfn, hfb, h1]
      · cases hb'
    have eargs : (xs.toList ++ [Value.func (.yield (w.heap.size + 1)) #[] #[]] ++ ys.toList).toArray = xs ++ #[.func (.yield (w.heap.size + 1)) #[] #[]] ++ ys := by
      apply Array.ext'; simp
    rw [eargs] at hrun
    refine ⟨w.heap.size + 1, [markOf w.heap.size], (w.alloc (.deferred (some []))).alloc (.loop q), { target := .fn (.func hf) ys, args := xs ++ #[.func (.yield (w.heap.size + 1)) #[] #[]] }, (w.alloc (.deferred (some []))).alloc (.loop q), hf, xs ++ #[.func (.yield (w.heap.size + 1)) #[] #[]] ++ ys, (w.alloc (.deferred (some []))).alloc (.loop q), run_enterLoop_outer fn a.tmps ps as bd, ?_, fun f' _ => FW_fn none f', ?_, FW_depth none 0, ?_⟩
    · simp only [resolve, hgv, map_one]; rfl
    · exact hent _ _
    · rcases hrun with ⟨f', args', e1, e2⟩ | ⟨v', w', e1, _⟩ | ⟨l', fn', tm', as', bd', e1, _⟩
      case inr.inl => rw [hent] at e1; cases e1
      case inr.inr => rw [hent] at e1; cases e1
      rw [hent] at e1
      simp only [Result.ok.injEq, Next.enter.injEq, and_true] at e1
      obtain ⟨rfl, rfl⟩ := e1
      refine FW_calls (Calls.mono e2 fun e w3 he => ?_)
      cases e with
      | returned rv =>
        obtain ⟨v3, σ2, hK3, g3, ow3, hret⟩ := he
        split at hK3
        case h_2 => exact hK3.elim
        rename_i l hl
        obtain ⟨hst, hKl⟩ := hK3
        obtain ⟨ow4, ho⟩ := ret_out (dst := none) r2 (fun _ => Free.nobody _ _) (fun _ _ _ h => h) (fun _ _ _ h => h.elim) hret
        have r4 : Rel g3 w3 ow4 fr a.tmps σ2 := ho.rel
        obtain ⟨b', q3, hb3, hq3⟩ := r4.ss.loops _ _ hl
        have hb3' : b' = w.heap.size + 1 := Option.some.inj (hb3.symm.trans (ho.tr.hb _ _ hb2))
        subst hb3'
        have hnb : q3.state ≠ .busy := by
          rw [hq3.state]
          unfold loopState
          split
          · simp
          · rename_i hr
            split
            · rename_i hpn; simp [hr, hpn] at hst
            · simp
        obtain ⟨r5, W5⟩ := r4.killLoop (q' := { q3 with state := .exhausted }) hl hb3 hq3
        have W : Way g w ow g3 (w3.putObj (w.heap.size + 1) (.loop { q3 with state := .exhausted })) ow4 :=
          ((W1.trans W2 r.ss.lt).trans ho.way r.ss.lt).trans W5 r.ss.lt
        have hmark : Marks g3 (w3.putObj (w.heap.size + 1) (.loop { q3 with state := .exhausted })) w.heap.size a.defers ([markOf w.heap.size] ++ a.defers) := by
          have m0 : Marks g (w.alloc (.deferred (some []))) w.heap.size a.defers ([markOf w.heap.size] ++ a.defers) := by
            refine ⟨[w.heap.size], rfl, by simp, fun b hb => ?_⟩
            rw [List.mem_singleton.1 hb]
            exact ⟨Nat.le_refl _, World.alloc_heap_new w _, fun o hw => absurd (r.ss.lt _ _ hw) (Nat.lt_irrefl _)⟩
          exact ((m0.along r1.own W2).along r2.own ho.way).along r4.own W5
        have post : Post g w ow a fr { σ2 with heap := σ2.heap.set σ.heap.length .dead } { a with defers := [markOf w.heap.size] ++ a.defers } (w3.putObj (w.heap.size + 1) (.loop { q3 with state := .exhausted })) := ⟨⟨g3, ow4, r5, W, hmark⟩⟩
        have key : ∀ (j : Option Code) (a' : Act) (W : World), j = l.pending.map Ex.toCode → Post g w ow a fr { σ2 with heap := σ2.heap.set σ.heap.length .dead } a' W →
            (match j with
             | none => Q .normal a' W
             | some c => c.wpIn (FW none) 0 P Q a' W) := by
          intro j a' W hj hp
          subst hj
          have hq' := hQ _ _ _ hKl _ _ hp
          cases hpd : l.pending with
          | none => rw [hpd] at hq'; exact hq'
          | some x =>
            rw [hpd] at hq'
            cases x with
            | normal => exact wpIn_skip hq'
            | exit id => exact wpIn_exit hq'
            | ret => exact wpIn_ret hq'
        exact ⟨q3.pending, _, run_endLoop hq3.obj hnb, key _ _ _ hq3.pending post⟩
      | _ => exact he.elim

theorem codeW_wp {rd : Option Nat} (hn : ∀ (f : FuncId) (fn : Func), P.funcs[f]? = some fn → fn.name ≠ "runtime.NumGoroutine") (hm : P.follows .mixedOrders = true) : ∀ (c : Code), treesIn cfg tr f c = true → BodyW P cfg tr rd f c
  | .skip, _ => fun k fr σ K h g w ow a Q r hQ => wpIn_skip (hQ _ _ _ h a w (Post.here r rfl))
  | .region id ops false, _ => fun k fr σ K h g w ow a Q r hQ => by
    simp only [codeW] at h
    exact wpIn_region (opsW_wp _ h r fun fr' σ' hk => hQ _ _ _ hk)
  | .region id ops true, hp => fun k fr σ K h g w ow a Q r hQ => by
    simp only [codeW] at h
    obtain ⟨hst, h⟩ := h
    simp only [treesIn] at hp
    generalize htr : tr f id = t at h hst hp
    have hp' : decide (t.depth ≤ ops.size) = true ∧ treeFast (ops.toList.map (infoOf cfg f ops)) t true 0 = true := by
      cases t with
      | stop => simp [isStop] at hst
      | _ => simpa using hp
    have hd := of_decide_eq_true hp'.1
    have hany := (planW_any (ModelW.le P) t true ops.size _ _ _ _ (by simpa using hd) (tree_fast t true 0 _ (same_none _) hp'.2) (closed_none _ _) (fun c hc => by cases hc) h).1 rfl
    refine wpIn_region_any hm (anyW_wp _ hany (r.heap rfl) fun fr' σ' hk a' w' hpost => hQ _ _ _ hk a' w' ?_)
    exact Post.after (g1 := g) (w0 := { w with drawn := w.drawn + 1 }) (ow1 := ow) (a1 := a) (Way.heap rfl) r.ss.lt r.own (Marks.none _ _ _ _) hpost
  | .seq x y, hp => fun k fr σ K h g w ow a Q r hQ => by
    simp only [treesIn, Bool.and_eq_true] at hp
    simp only [codeW] at h
    refine wpIn_seq (codeW_wp hn hm x hp.1 k fr σ _ h g w ow a _ r fun e1 fr1 σ1 hk a1 w1 hpost => ?_)
    cases e1 with
    | normal =>
      obtain ⟨g1, ow1, r1, W1, hd⟩ := hpost.out
      exact codeW_wp hn hm y hp.2 k fr1 σ1 K hk g1 w1 ow1 a1 Q r1 fun e fr' σ' hk' a' w' hp' => hQ e fr' σ' hk' a' w' (hp'.after W1 r.ss.lt r1.own hd)
    | exit id => exact hQ _ _ _ hk a1 w1 hpost
    | ret => exact hQ _ _ _ hk a1 w1 hpost
  | .cond c x y, hp => fun k fr σ K h g w ow a Q r hQ => by
    simp only [treesIn, Bool.and_eq_true] at hp
    simp only [codeW] at h
    have hc := r.sf.opnd c
    split at h
    · rename_i b hb
      rw [hb] at hc
      cases b with
      | true => exact wpIn_cond_true (V_bool (PV.plain hc rfl)) (codeW_wp hn hm x hp.1 k fr σ K (h.1 rfl) g w ow a Q r hQ)
      | false => exact wpIn_cond_false (V_bool (PV.plain hc rfl)) (codeW_wp hn hm y hp.2 k fr σ K (h.2 rfl) g w ow a Q r hQ)
    · exact h.elim
  | .block id x, hp => fun k fr σ K h g w ow a Q r hQ => by
    simp only [treesIn] at hp
    simp only [codeW] at h
    refine wpIn_block (codeW_wp hn hm x hp id fr σ _ h g w ow a _ r fun e1 fr1 σ1 hk a1 w1 hpost => ?_)
    cases e1 with
    | normal => exact hQ _ _ _ hk a1 w1 hpost
    | exit id' =>
      show if id' = id then Q .normal a1 w1 else Q (.exit id') a1 w1
      simp only [blockK] at hk
      by_cases he : id' = id
      · rw [if_pos he] at hk ⊢; exact hQ _ _ _ hk a1 w1 hpost
      · rw [if_neg he] at hk ⊢; exact hQ _ _ _ hk a1 w1 hpost
    | ret => exact hQ _ _ _ hk a1 w1 hpost
  | .loop x, hp => fun k fr σ K h g w ow a Q r hQ => by
    simp only [treesIn] at hp
    simp only [codeW] at h
    exact loopW_wp (codeW_wp hn hm x hp) r.ss.slen r.ss.lt hQ h r (Way.refl _ _ _) (Marks.none _ _ _ _)
  | .exit id, _ => fun k fr σ K h g w ow a Q r hQ => wpIn_exit (hQ _ _ _ h a w (Post.here r rfl))
  | .ret, _ => fun k fr σ K h g w ow a Q r hQ => wpIn_ret (hQ _ _ _ h a w (Post.here r rfl))
  | .label _, _ => fun k fr σ K h => by simp only [codeW] at h
  | .goto _, _ => fun k fr σ K h => by simp only [codeW] at h
  | .rangeFunc gop ps as bd, hp => fun k fr σ K h g w ow a Q r hQ => by
    simp only [codeW] at h
    obtain ⟨hrd, h⟩ := h
    have hrd' : rd = none := by cases rd <;> simp_all
    subst hrd'
    exact rangeFuncW_wp hn h r hQ
  | .scope .., _ => fun k fr σ K h => by simp only [codeW] at h
  | .refuse _, _ => fun k fr σ K h => by simp only [codeW] at h

theorem treesOK_body (hp : treesOK P cfg tr = true) {fn : Func} {c : Code} (hf : P.funcs[f]? = some fn) (hb : fn.body = some c) : treesIn cfg tr f c = true := by
  have hl : f < P.funcs.size := (Array.getElem?_eq_some_iff.1 hf).1
  have := List.all_eq_true.1 hp f (List.mem_range.2 hl)
  rw [hf] at this
  dsimp only at this
  rw [hb] at this
  exact this

theorem bodyW_runs (hm : P.follows .mixedOrders = true) (hp : treesOK P cfg tr = true) (hn : ∀ (f : FuncId) (fn : Func), P.funcs[f]? = some fn → fn.name ≠ "runtime.NumGoroutine") {args : List AV} {K : AV → St → Prop} (h : bodyW (ModelW P) P cfg tr f args σ K)
    {xs : Array Value} (r : Rel g w ow args xs σ) : Runs P (callFunc f xs) w fun rv w' => ∃ v σ', K v σ' ∧ ∃ g' ow', Ret g w ow v σ' rv g' w' ow' := by
  unfold bodyW at h
  split at h
  case h_2 => exact h.elim
  rename_i fn hf
  split at h
  case h_2 => exact h.elim
  rename_i c hb
  have hent : (callFunc f xs).run P w = .ok (.enter f xs) w := by
    have := hn f fn hf
    simp [callFunc, Sem.run, hf, hb, this]
  refine .inl ⟨f, xs, hent, (callsIn_wide (n := 0)).1 (callsIn_of_wp_marks hf hb trivial ?_)⟩
  have hsz := r.sf.size
  have r0 : Rel g w ow (args ++ List.replicate (fn.ntmps - args.length) .undef) (xs ++ Array.replicate (fn.ntmps - xs.size) undef) σ := by
    refine ⟨r.ss, r.own, by simp [hsz], fun i x hi => ?_⟩
    by_cases hl : i < args.length
    · rw [List.getElem?_append_left hl] at hi
      obtain ⟨u, h1, h2⟩ := r.sf.val i x hi
      exact ⟨u, by rw [Array.getElem?_append_left (by rw [hsz]; exact hl)]; exact h1, h2⟩
    · rw [List.getElem?_append_right (by omega)] at hi
      have hi' := List.getElem?_eq_some_iff.1 hi
      obtain ⟨h1, h2⟩ := hi'
      rw [List.getElem_replicate] at h2; subst h2
      refine ⟨undef, ?_, PV.undef _⟩
      rw [List.length_replicate] at h1
      rw [Array.getElem?_append_right (by omega), Array.getElem?_eq_getElem (by rw [Array.size_replicate]; omega), Array.getElem_replicate]
  refine codeW_wp (rd := none) hn hm c (treesOK_body hp hf hb) 0 _ _ _ h g w ow _ _ r0 fun e fr1 σ1 hk a' w' hpost => ?_
  have ends : ∀ {v : AV} {σ' : St}, K v σ' → finish P σ.stk.length fn fr1 σ1 = some (v, σ') →
      LeavesInM (FW none) 0 P fn a'.tmps (fun e w' => match e with | .returned v_1 => ∃ v σ', K v σ' ∧ ∃ g' ow', Ret g w ow v σ' v_1 g' w' ow' | _ => False) a'.defers .returning w' := by
    intro v σ' hkv h
    obtain ⟨g', ow', r1, W1, bs, hds, hnd, hbs⟩ := hpost.out
    rw [List.append_nil] at hds
    rw [hds]
    refine leaves_marks bs hnd (fun b hb => ⟨(hbs b hb).1, (hbs b hb).2.1⟩) r1 W1 fun w'' r2 W2 => ?_
    obtain ⟨rv, g2, ow2, h1, h2⟩ := finish_run r2 W2 r.ss.slen h
    exact ⟨rv, h1, v, σ', hkv, g2, ow2, h2⟩
  unfold finishW at hk
  cases e with
  | exit id => exact hk.elim
  | normal =>
    dsimp only at hk
    split at hk
    · rename_i v σ' hfin; exact ends hk hfin
    · exact hk.elim
  | ret =>
    dsimp only at hk
    split at hk
    · rename_i v σ' hfin; exact ends hk hfin
    · exact hk.elim

theorem roundW_runs (hm : P.follows .mixedOrders = true) (hn : ∀ (f : FuncId) (fn : Func), P.funcs[f]? = some fn → fn.name ≠ "runtime.NumGoroutine") {h b : Nat} {args : List AV} {K : AV → St → Prop} (he : roundW (ModelW P) P cfg tr h args σ K)
    {xs : Array Value} (r : Rel g w ow args xs σ) (hb : g.hb[h]? = some b) : Runs P (Instr.yield b xs) w fun rv w' => ∃ v σ', K v σ' ∧ ∃ g' ow', Ret g w ow v σ' rv g' w' ow' := by
  unfold roundW at he
  split at he
  case h_2 => exact he.elim
  rename_i l hl
  obtain ⟨hlen, hpa, hpb, he⟩ := he
  obtain ⟨b0, q, hb0, hq⟩ := r.ss.loops _ _ (loopOf_some hl)
  have : b0 = b := Option.some.inj (hb0.symm.trans hb)
  subst this
  have hsz : xs.size = q.params.size := by rw [r.sf.size, hlen, ← hq.params]; simp
  refine .inr (.inr ⟨b0, q.fn, _, q.assign, q.body, run_yield hq.obj hsz, roundIn_of_wpIn trivial ?_⟩)
  have hfold : VL g w (setAll l.params (args.map AV.look) l.fr) ((q.params.zip xs).foldl (fun tmps (t, a) => tmps.setIfInBounds t a) q.tmps).toList := by
    have := setAll_V q.params.toList (args.map AV.look) xs.toList (look_VL r.sf) hq.fr
    rw [← Array.toList_zip, Array.foldl_toList, hq.params] at this
    exact this
  have r0 := r.mem hfold
  rw [hq.assign]
  refine codeW_wp (rd := some b0) hn hm l.assign hpa 0 _ _ _ he g w ow.mem { tmps := _, defers := [] } _ r0 fun e0 fr1 σ1 hk0 a1 w1 hp1 => ?_
  obtain ⟨he0, hk1⟩ := hk0
  subst he0
  split at hk1
  case h_2 => exact hk1.elim
  rename_i l1 hl1
  obtain ⟨hrdy, hpnd, hbd⟩ := hk1
  obtain ⟨g1, ow1, r1, W1, _⟩ := hp1.out
  obtain ⟨b1, q1, hb1, hq1⟩ := r1.ss.loops _ _ (loopOf_some hl1)
  have : b1 = b0 := Option.some.inj (hb1.symm.trans (W1.tr.hb _ _ hb))
  subst this
  have hq1r : q1.state = .ready := by rw [hq1.state]; unfold loopState; rw [hrdy]; rfl
  refine ⟨_, run_beginRound hq1.obj hq1r, ?_⟩
  obtain ⟨r2, W2⟩ := r1.setLoop (l' := { l1 with ready := false }) (q' := { q1 with state := .busy }) (loopOf_some hl1) hb1 hq1 hq1.params hq1.assign hq1.body (by unfold loopState; simp [hpnd]) hq1.pending rfl rfl
  rw [hq.body]
  refine codeW_wp (rd := some b1) hn hm l.body hpb 0 _ _ _ hbd g1 _ ow1 a1 _ r2 fun e fr2 σ2 hk2 a2 w2 hp2 => ?_
  split at hk2
  case h_2 => exact hk2.elim
  rename_i l2 hl2
  obtain ⟨g3, ow3, r3, W3, _⟩ := hp2.out
  obtain ⟨b3, q3, hb3, hq3⟩ := r3.ss.loops _ _ (loopOf_some hl2)
  have : b3 = b1 := Option.some.inj (hb3.symm.trans (W3.tr.hb _ _ hb1))
  subst this
  have Wmem : Way g w ow g w ow.mem := Way.only ow.mem_sub
  have W13 : Way g w ow g3 w2 ow3 := ((Wmem.trans W1 r.ss.lt).trans W2 r.ss.lt).trans W3 r.ss.lt
  have fin : ∀ (jump : Option Ex), (jump.isNone = decide (e = .normal)) → (jump = if e = .normal then none else some e) →
      ∃ v w', (Instr.endRound b3 (jump.map Ex.toCode)).run P w2 = .ok v w' ∧ ∃ v' σ', K v' σ' ∧ ∃ g' ow', Ret g w ow v' σ' v g' w' ow' := by
    intro jump hj hj'
    refine ⟨_, _, run_endRound (jump.map Ex.toCode) hq3.obj, _, _, hk2, ?_⟩
    have hjn : (jump.map Ex.toCode).isNone = decide (e = .normal) := by rw [← hj]; cases jump <;> rfl
    obtain ⟨r4, W4⟩ := r3.setLoop (l' := { l2 with ready := decide (e = .normal), pending := if e = .normal then none else some e }) (q' := { q3 with state := if (jump.map Ex.toCode).isNone then .ready else .done, pending := jump.map Ex.toCode }) (loopOf_some hl2) hb3 hq3 hq3.params hq3.assign hq3.body
      (by rw [hjn]; unfold loopState; by_cases hen : e = .normal <;> simp [hen]) (by rw [hj']) rfl rfl
    have r5 := r4.mem (fr' := [.bool (e = .normal)]) (tm' := #[.bool (jump.map Ex.toCode).isNone]) (by rw [hjn]; exact .sc (.bool (decide (e = .normal))) .nil)
    have W5 : Way g w ow g3 (w2.putObj b3 (.loop { q3 with state := if (jump.map Ex.toCode).isNone then .ready else .done, pending := jump.map Ex.toCode })) ow3.mem := (W13.trans W4 r.ss.lt).trans (Way.only ow3.mem_sub) r.ss.lt
    exact ⟨g3.cut σ.stk.length, ow3.mem, r5.cut σ.stk.length rfl, W5.cut r.ss.slen, W5.sb_cut r.ss.slen⟩
  cases e with
  | normal => exact fin none rfl rfl
  | exit id => exact fin (some (.exit id)) rfl rfl
  | ret => exact fin (some .ret) rfl rfl

theorem model_closed (hm : P.follows .mixedOrders = true) (hp : treesOK P cfg tr = true) (hn : ∀ (f : FuncId) (fn : Func), P.funcs[f]? = some fn → fn.name ≠ "runtime.NumGoroutine") (hpr : PrimOK P cfg) :
    ∀ t args σ K, unfoldW (ModelW P) P cfg tr t args σ K → ModelW P t args σ K := by
  intro t args σ K h g w ow xs r s hs
  unfold unfoldW at h
  cases t with
  | fn f =>
    simp only [Tgt.sem, Option.some.injEq] at hs
    subst hs
    dsimp only at h
    split at h
    · rename_i p hp'
      split at h
      · rename_i v σ' hv
        exact Runs.mono (hpr f p hp' args σ v σ' hv g w ow xs r) fun rv w' x => ⟨v, σ', h, x⟩
      · exact h.elim
    · exact bodyW_runs hm hp hn h r
  | yield k =>
    simp only [Tgt.sem] at hs
    obtain ⟨b, hb, rfl⟩ := map_some hs
    exact roundW_runs hm hn h r hb

theorem Ret.weak {v b : AV} {rv : Value} (h : Ret g w ow v σ' rv g' w' ow') (hl : ∀ b o, g.wr b o → b < w.heap.size) (hb : b = v ∨ WkL [v.sh] [b]) : ∃ g'' ow'', Ret g w ow b σ' rv g'' w' ow'' := by
  rcases hb with rfl | hb
  · exact ⟨g', ow', h⟩
  · obtain ⟨g1, ow1, r1, W1, h1, _⟩ := h.rel.weakAt (i := 0) rfl hb
    exact ⟨g1, ow1, r1, h.way.trans W1 hl, h1.trans h.sb⟩

theorem ModelW.closed (hm : P.follows .mixedOrders = true) (hp : treesOK P cfg tr = true) (hn : ∀ (f : FuncId) (fn : Func), P.funcs[f]? = some fn → fn.name ≠ "runtime.NumGoroutine") (hpr : PrimOK P cfg) : ClosedW P cfg tr (ModelW P) where
  unf := model_closed hm hp hn hpr
  arg t args i a b σ K hi hw h g w ow xs r s hs := by
    obtain ⟨g1, ow1, r1, W1, h1, h2⟩ := r.weakAt hi hw
    refine Runs.mono (h g1 w ow1 xs r1 s (by cases t <;> simpa [Tgt.sem, h2] using hs)) fun rv w' ⟨v, σ', hK, g', ow', hr⟩ => ⟨v, σ', hK, g', ow', hr.rel, W1.trans hr.way r.ss.lt, hr.sb.trans h1⟩
  res t args σ K h g w ow xs r s hs := by
    refine Runs.mono (h g w ow xs r s hs) fun rv w' ⟨v, σ', ⟨b, hb, hK⟩, g', ow', hr⟩ => ?_
    obtain ⟨g2, ow2, h2⟩ := hr.weak r.ss.lt hb
    exact ⟨b, σ', hK, g2, ow2, h2⟩

/-- What is proved of a call by the predicate transformer, the model does. -/
theorem EvW_sound (hm : P.follows .mixedOrders = true) (hp : treesOK P cfg tr = true) (hn : ∀ (f : FuncId) (fn : Func), P.funcs[f]? = some fn → fn.name ≠ "runtime.NumGoroutine") (hpr : PrimOK P cfg)
    {t : Tgt} {args : List AV} {σ : St} {K : AV → St → Prop} (h : EvW P cfg tr t args σ K) : ModelW P t args σ K := h _ (ModelW.closed hm hp hn hpr)

/-- A call without a hand in what was there: all of it is as before. -/
theorem callsW_alone {fn : Func} (hf : P.funcs[f]? = some fn) (hname : fn.name ≠ "runtime.NumGoroutine") (hb : fn.body.isSome = true) {args : List AV} {x : Sc} (h : ModelW P (.fn f) args ⟨[], []⟩ fun v _ => v = .s x) (w : World) {xs : Array Value} (hl : xs.size = args.length)
    (hx : ∀ (i : Nat) (a : AV), args[i]? = some a → ∃ v, xs[i]? = some v ∧ V G.none w a v) : Calls P f xs w fun e w' => e = .returned x.toV ∧ RowKit.Below w.heap.size w w' := by
  have hrun := h G.none w Own.none xs (rel_none w hl hx) _ rfl
  have hent : (callFunc f xs).run P w = .ok (.enter f xs) w := by
    have hb' : fn.body.isNone = false := by cases hbb : fn.body <;> simp_all
    simp [callFunc, Sem.run, hf, hname]
    cases hbb : fn.body with
    | none => simp [hbb] at hb
    | some c => simp [Sem.run]
  rcases hrun with ⟨f', args', e1, hc⟩ | ⟨rv, w', he, _⟩ | ⟨l, fn', tm', as', bd', he, _⟩
  · rw [hent] at e1
    simp only [Result.ok.injEq, Next.enter.injEq, and_true] at e1
    obtain ⟨rfl, rfl⟩ := e1
    refine Calls.mono hc fun e w' he => ?_
    cases e with
    | returned rv =>
      obtain ⟨v, σ', rfl, g', ow', hr⟩ := he
      obtain ⟨u, h1, h2⟩ := hr.rel.sf.val 0 (.s x) rfl
      simp at h1; subst h1
      have := (show V g' w' (.s x) rv from h2).sc_inv
      subst this
      exact ⟨rfl, hr.way.tr.env.1, hr.way.tr.env.2.1, hr.way.tr.env.2.2, hr.way.tr.size, fun b hbl => hr.way.tr.obj b hbl fun o hm => may_none hm⟩
    | _ => exact he.elim
  · rw [hent] at he; cases he
  · rw [hent] at he; cases he
end
end Go.AM
/-! The configuration of the abstract machine for this program. -/
namespace Go.AM
open Go Go.Proofs
set_option maxRecDepth 100000
def cfgA.heap (f d : Nat) : Bool :=
  match f with
  | 13 => [37].contains d
  | 14 => [11].contains d
  | 35 => [41].contains d
  | 36 => [14].contains d
  | 45 => [3, 4, 5, 7].contains d
  | 62 => [1].contains d
  | _ => false

def cfgA.take (f d : Nat) : Bool :=
  match f with
  | 3 => [22].contains d
  | 6 => [30].contains d
  | 7 => [18, 25, 27].contains d
  | 8 => [52].contains d
  | 9 => [73].contains d
  | 13 => [34].contains d
  | 14 => [29, 35].contains d
  | 19 => [69, 74].contains d
  | 26 => [33].contains d
  | 29 => [59, 70, 74].contains d
  | 34 => [21, 28].contains d
  | 36 => [35, 43].contains d
  | 39 => [9, 23, 27].contains d
  | 40 => [76, 80].contains d
  | 57 => [5].contains d
  | 58 => [9, 60].contains d
  | 61 => [5, 6].contains d
  | 62 => [1].contains d
  | 67 => [5].contains d
  | 69 => [24, 30].contains d
  | 80 => [44].contains d
  | 92 => [7].contains d
  | 93 => [28].contains d
  | _ => false

def cfgA.mask (f b : Nat) : List Bool :=
  match f, b with
  | 3, 0 => [false, true, false, false, false, true, false, true, true, true, false, false, false, false, false, false, false, false, false, false, false, false, false, false, false, false, false, false, false, false, false, false, false, false, false, false, false, false, false, false, false, false, false, false, false, false, false, false, false, false, false, false, false, false, false, false, false, false, false, false, false, false, false, false, false, false, false, false, false, false, false, false, false, false, false, false, false, false, false, false, false, false, false, false, false, false, false, false, false, false, false, false, false, false, false, false, false, false, false, false, false, false, false, false, false, false, false, false, false, false]
  | 3, 2 => [false, false, false, false, false, false, false, true, true, false, false, true, false, false, false, false, false, false, false, false, false, false, false, false, false, false, false, false, false, false, false, false, false, false, false, false, false, false, false, false, false, false, false, false, false, false, false, false, false, false, false, false, false, false, false, false, false, false, false, false, false, false, false, false, false, false, false, false, false, false, false, false, false, false, false, false, false, false, false, false, false, false, false, false, false, false, false, false, false, false, false, false, false, false, false, false, false, false, false, false, false, false, false, false, false, false, false, false, false, false]
  | 4, 0 => [false, false, false, false, false, false, true, false, true, true, false, false, false, true, false, true, true, true, false, false, false, false, false, false, false, false, false, false, false, false, false, false, false, false, false, false, false, false, false, false, false, false, false, false, false, false, false, false, false, false, false, false, false, false, false, false, false, false, false, false, false, false, false, false, false, false, false, false, false, false, false, false, false, false, false, false, false, false, false, false, false, false, false, false, false, false, false, false, false, false, false, false, false, false, false, false, false, false, false, false, false, false, false, false, false, false, false, false, false]
  | 7, 0 => [true, false, false, true, true, false, false, false, false, false, false, false, false, false, false, false, false, false, false, false, false, false, false, false, false, false, false, false, false, false, false, false, false, false, false, false, false, false, false, false, false, false, false, false]
  | 10, 0 => [false, false, true, false, false, false, true, false, true, true, false, true, false, true, false, true, true, true, false, false, false, false, false, false, false, false, false, false, false, false, false, false, false, false, false, false, false, false, false, false, false, false, false, false, false, false, false, false, false, false, false, false, false, false, false, false, false, false, false, false, false, false, false, false, false, false, false, false, false, false, false, false, false, false, false, false, false, false, false, false, false, false, false, false, false, false, false, false, false, false, false, false, false, false, false, false, false, false, false, false, false, false, false, false, false, false, false, false, false, false, false, false, false, false, false, false, false]
  | 12, 0 => [true, false, false, true, false, false, false, false, false, false, false, false, false, false, false, false, false, false, false, false]
  | 13, 0 => [true, false, false, false, false, false, true, true, true, false, false, false, false, false, false, false, false, false, false, false, false, false, false, false, false, false, false, false, false, false, false, false, false, false, false, false, false, false]
  | 14, 0 => [true, false, false, false, false, true, false, false, false, false, false, false, true, true, true, false, false, false, false, false, false, false, false, false, false, false, false, false, false, false, false, false, false, false, false, false]
  | 15, 0 => [false, false, false, true, false, true, false, false, false, false, false, false, false, false, true, true, true, false, false, false, false, false, false, false, false, false, false, false]
  | 16, 0 => [false, true, false, true, true, false, false, false, false, false, false, false, false, false, false, false, false]
  | 18, 0 => [false, false, true, true, false, true, false, false, false, false, false, false, false, false, false, false, false, false, false, false, false, false, false, false]
  | 19, 0 => [true, false, false, false, true, true, false, true, true, false, false, false, false, false, false, false, false, false, false, false, false, false, false, false, true, true, false, false, false, false, false, false, false, false, false, false, false, false, false, false, false, false, false, false, false, false, false, false, false, false, false, false, false, false, false, false, false, false, false, false, false, false, false, false, false, false, false, false, false, false, false, false, false, false, false]
  | 25, 0 => [false, false, false, false, true, true, false, false, true, true, true, false, false, false, false, true, true, true, false, false, false, false, false, false, false, false, false, false, false, false, false, false, false, false, false, false, false, false, false, false, false, false, false, false, false, false, false, false, false, false, false, false, false, false, false, false, false, false, false, false, false, false, false]
  | 27, 0 => [true, false, false, true, false, false, false, false, false, false, false, false, false, false, false, false, false, false, false, false, false, false, false, false, false, false, false, false, false]
  | 28, 0 => [true, false, true, true, false, false, false, false, false, false, false, false, false, false, false, false, false, false, false, false, false, false, false, false, false, false, false, false, false, false, false, false, false, false, false, false, false, false, false, false, false, false, false, false, false, false, false, false, false, false, false, false, false, false, false, false, false, false, false, false, false, false, false, false, false, false, false, false, false, false, false, false, false, false, false, false, false, false, false, false, false, false, false, false, false, false, false, false, false, false, false, false, false, false, false, false, false, false, false, false, false, false, false, false, false, false, false, false, false, false, false, false, false, false, false, false, false, false, false, false, false, false, false, false, false, false, false, false, false, false, false, false, false, false, false, false, false, false, false, false, false, false, false, false, false, false, false, false, false, false, false, false, false, false, false, false, false, false, false, false, false, false, false, false, false, false, false, false, false, false, false, false, false, false, false, false, false, false, false, false, false, false, false, false, false, false, false, false, false, false, false, false, false, false, false, false, false, false, false, false, false, false]
  | 28, 2 => [true, false, true, false, true, false, false, false, false, false, false, false, false, false, false, false, false, false, false, false, false, false, false, false, false, false, false, false, false, false, false, false, false, false, false, false, false, false, false, false, false, false, false, false, false, false, false, false, false, false, false, false, false, false, false, false, false, false, false, false, false, false, false, false, false, false, false, false, false, false, false, false, false, false, false, false, false, false, false, false, false, false, false, false, false, false, false, false, false, false, false, false, false, false, false, false, false, false, false, false, false, false, false, false, false, false, false, false, false, false, false, false, false, false, false, false, false, false, false, false, false, false, false, false, false, false, false, false, false, false, false, false, false, false, false, false, false, false, false, false, false, false, false, false, false, false, false, false, false, false, false, false, false, false, false, false, false, false, false, false, false, false, false, false, false, false, false, false, false, false, false, false, false, false, false, false, false, false, false, false, false, false, false, false, false, false, false, false, false, false, false, false, false, false, false, false, false, false, false, false, false, false]
  | 28, 4 => [true, false, true, false, true, true, false, false, false, false, false, false, false, false, false, false, false, false, false, false, false, false, false, false, false, false, false, false, false, false, false, false, false, false, false, false, false, false, false, false, false, false, false, false, false, false, false, false, false, false, false, false, false, false, false, false, false, false, false, false, false, false, false, false, false, false, false, false, false, false, false, false, false, false, false, false, false, false, false, false, false, false, false, false, false, false, false, false, false, false, false, false, false, false, false, false, false, false, false, false, false, false, false, false, false, false, false, false, false, false, false, false, false, false, false, false, false, false, false, false, false, false, false, false, false, false, false, false, false, false, false, false, false, false, false, false, false, false, false, false, false, false, false, false, false, false, false, false, false, false, false, false, false, false, false, false, false, false, false, false, false, false, false, false, false, false, false, false, false, false, false, false, false, false, false, false, false, false, false, false, false, false, false, false, false, false, false, false, false, false, false, false, false, false, false, false, false, false, false, false, false, false]
  | 28, 6 => [true, false, true, false, true, true, true, false, false, false, false, false, false, false, false, false, false, false, false, false, false, false, false, false, false, false, false, false, false, false, false, false, false, false, false, false, false, false, false, false, false, false, false, false, false, false, false, false, false, false, false, false, false, false, false, false, false, false, false, false, false, false, false, false, false, false, false, false, false, false, false, false, false, false, false, false, false, false, false, false, false, false, false, false, false, false, false, false, false, false, false, false, false, false, false, false, false, false, false, false, false, false, false, false, false, false, false, false, false, false, false, false, false, false, false, false, false, false, false, false, false, false, false, false, false, false, false, false, false, false, false, false, false, false, false, false, false, false, false, false, false, false, false, false, false, false, false, false, false, false, false, false, false, false, false, false, false, false, false, false, false, false, false, false, false, false, false, false, false, false, false, false, false, false, false, false, false, false, false, false, false, false, false, false, false, false, false, false, false, false, false, false, false, false, false, false, false, false, false, false, false, false]
  | 28, 8 => [true, false, true, false, false, false, false, false, false, true, false, false, false, false, false, false, false, false, false, false, false, false, false, false, false, false, false, false, false, false, false, false, false, false, false, false, false, false, false, false, false, false, false, false, false, false, false, false, false, false, false, false, false, false, false, false, false, false, false, false, false, false, false, false, false, false, false, false, false, false, false, false, false, false, false, false, false, false, false, false, false, false, false, false, false, false, false, false, false, false, false, false, false, false, false, false, false, false, false, false, false, false, false, false, false, false, false, false, false, false, false, false, false, false, false, false, false, false, false, false, false, false, false, false, false, false, false, false, false, false, false, false, false, false, false, false, false, false, false, false, false, false, false, false, false, false, false, false, false, false, false, false, false, false, false, false, false, false, false, false, false, false, false, false, false, false, false, false, false, false, false, false, false, false, false, false, false, false, false, false, false, false, false, false, false, false, false, false, false, false, false, false, false, false, false, false, false, false, false, false, false, false]
  | 28, 10 => [true, false, true, false, false, false, false, false, false, true, true, false, false, false, false, false, false, false, false, false, false, false, false, false, false, false, false, false, false, false, false, false, false, false, false, false, false, false, false, false, false, false, false, false, false, false, false, false, false, false, false, false, false, false, false, false, false, false, false, false, false, false, false, false, false, false, false, false, false, false, false, false, false, false, false, false, false, false, false, false, false, false, false, false, false, false, false, false, false, false, false, false, false, false, false, false, false, false, false, false, false, false, false, false, false, false, false, false, false, false, false, false, false, false, false, false, false, false, false, false, false, false, false, false, false, false, false, false, false, false, false, false, false, false, false, false, false, false, false, false, false, false, false, false, false, false, false, false, false, false, false, false, false, false, false, false, false, false, false, false, false, false, false, false, false, false, false, false, false, false, false, false, false, false, false, false, false, false, false, false, false, false, false, false, false, false, false, false, false, false, false, false, false, false, false, false, false, false, false, false, false, false]
  | 29, 0 => [true, false, false, true, true, false, false, false, false, false, false, false, false, false, false, false, false, false, false, false, false, false, false, false, false, false, false, false, false, false, false, false, false, false, false, false, false, false, false, false, false, false, false, false, false, false, false, false, false, false, false, false, false, false, false, false, false, false, false, false, false, false, false, false, false, false, false, false, false, false, false, false, false, false, false]
  | 29, 2 => [true, false, false, true, true, true, true, false, false, false, false, false, false, false, false, false, false, false, false, false, false, false, false, false, false, false, false, false, false, false, false, false, false, false, false, false, false, false, false, false, false, false, false, false, false, false, false, false, false, false, false, false, false, false, false, false, false, false, false, false, false, false, false, false, false, false, false, false, false, false, false, false, false, false, false]
  | 30, 0 => [true, false, false, false, true, true, false, false, true, true, true, true, false, false, false, false, false, false, false, false, false, false, false, false, false, false, false, false, false, false, false, false, false, false, false, false, false, false, false, false, false, false, false, false, false, false, false, false, false, false, false, false, false, false, false, false, false, false, false, false, false, false, false, false, false, false, false, false, false, false, false, false, false, false, false, false, false, false, false]
  | 33, 0 => [true, true, false, false, false, true, false, false, false, false, false, false, false, false, false, false, false, false, false, false, false, false, false, false, false, false]
  | 34, 0 => [true, false, false, false, false, true, false, false, false, true, true, true, false, false, false, false, false, false, false, false, false, false, false, false, false, false, false, false, false, false]
  | 35, 0 => [true, false, false, false, true, false, false, false, false, false, false, false, false, false, false, false, false, false, false, false, false, false, false, false, false, false, false, false, false, false, false, false, false, false, false, false, false, false, false, false, false, false]
  | 36, 0 => [true, true, false, false, false, true, true, false, false, false, false, false, false, false, false, false, false, false, false, false, false, false, false, false, false, false, false, false, false, false, false, false, false, false, false, false, false, false, false, false, false, false, false, false]
  | 37, 0 => [true, true, false, false, false, true, false, false, false, false, false, false, false, false, false, false, false, false, false, false, false, false, false, false, false, false]
  | 38, 0 => [true, false, false, true, false, true, false, false, false, false, false, false, false, false, false, false, false, false, false, false, false, false, false, false, false, false, false, false, false, false, false]
  | 39, 0 => [false, false, false, false, false, true, true, true, false, false, false, false, false, false, false, false, false, false, false, false, false, false, false, false, false, false, false, false]
  | 40, 0 => [true, false, false, false, true, true, false, true, true, true, false, false, false, false, false, false, false, false, false, false, false, false, false, false, false, false, false, false, false, false, false, false, false, false, false, false, false, false, false, false, false, false, false, false, false, false, false, false, false, false, false, false, false, false, false, false, false, false, false, false, false, false, false, false, false, false, false, false, false, false, false, false, false, false, false, false, false, false, false, false, false]
  | 44, 0 => [true, false, true, false, true, true, false, false, false, false, false, false, false, false, false, false, false, false, false, false, false, false, false, false, false, false, false, false, false, false, false, false, false]
  | 45, 0 => [false, false, false, true, true, true, false, false, false, false, false, false, false, false, false, false, false, false, false]
  | 47, 0 => [false, false, true, false, false, false, true, true, true, false, false, false, false, false, false, false, false, false, false, false, false, false, false, false, false, false, false]
  | 48, 0 => [true, true, true, false, false, false, true, false, false, false, false, true, true, true, false, false, false, false, false, false, false, false, false, false, false, false, false, false, false, false, false, false, false, false, false, false, false, false, false, false, false, false, false, false, false, false, false, false, false, false]
  | 48, 2 => [true, true, true, false, false, false, true, false, true, true, true, true, true, true, false, false, false, false, false, false, false, false, false, false, false, false, false, false, false, false, false, false, false, false, false, false, false, false, false, false, false, false, false, false, false, false, false, false, false, false]
  | 53, 0 => [true, false, true, false, false, false, false, false, false, false, false, false, true, true, true, false, false, false, false, false, false, false, false, false, false, false, false, false, false, false, false, false, false, false, false, false, false, false, false, false, false, false, false, false, false, false, false, false, false, false, false, false, false, false, false, false, false, false]
  | 53, 2 => [true, false, true, false, true, true, false, false, false, false, false, false, true, true, true, false, false, false, false, false, true, true, true, false, false, false, false, false, false, false, false, false, false, false, false, false, false, false, false, false, false, false, false, false, false, false, false, false, false, false, false, false, false, false, false, false, false, false]
  | 55, 0 => [true, true, false, false, false, true, false, false, false, false, false, false, false, false, false, false, false, false, false, false, false, false, false, false, false]
  | 56, 0 => [true, false, false, true, true, false, true, false, false, false, false, false, false, false, false, false, false, false, false, false, false, false, false, false, false, false]
  | 58, 0 => [true, false, false, true, false, false, false, false, false, false, false, false, false, false, false, false, false, false, false, false, false, false, false, false, false, false, false, false, false, false, false, false, false, false, false, false, false, false, false, false, false, false, false, false, false, false, false, false, false, false, false, false, false, false, false, false, false, false, false, false, false]
  | 58, 2 => [true, false, false, true, true, true, false, false, false, false, false, false, false, false, false, false, false, false, false, false, false, false, false, false, false, false, false, false, false, false, false, false, false, false, false, false, false, false, false, false, false, false, false, false, false, false, false, false, false, false, false, false, false, false, false, false, false, false, false, false, false]
  | 60, 0 => [false, true, false, true, false, false, false, false, false, false, false, false, false, false, false, false, false]
  | 63, 0 => [false, false, false, true, false, false, true, true, true, false, false, false, false, false, false, false, false, false]
  | 69, 0 => [true, true, true, true, false, false, false, false, true, true, false, false, false, false, false, false, false, false, false, false, false, false, false, false, false, false, false, false, false, false, false, false, false, false, false, false, false, false, false, false, false, false, false, false, false, false, false, false, false, false, false, false, false, false, false, false, false, false, false, false, false, false, false, false, false, false, false, false, false, false, false, false, false, false, false, false, false, false, false, false, false, false, false, false, false, false, false, false, false, false, false, false, false, false, false, false, false, false, false, false, false, false, false, false, false, false, false, false, false, false, false, false, false, false, false, false, false, false, false, false, false, false, false, false, false, false, false, false, false, false, false, false, false, false]
  | 73, 0 => [true, true, false, true, false, false, false, false, false, false, false, false, false, false, false, false, false, false, false]
  | 76, 0 => [true, true, false, false, false, false, false, true, true, false, false, false, false, false, false, false, false, false, false]
  | 77, 0 => [true, true, true, false, false, false, true, false, false, false, false, false, false, false, false, false, false, false, false, false, false, false, false, false, false, false, false, false, false, false, false, false, false, false, false, false, false, false, false, false, false, false, false, false, false, false, false, false, false]
  | 77, 2 => [true, true, true, false, false, false, true, true, false, false, false, false, false, false, false, false, false, false, false, false, false, false, false, false, false, false, false, false, false, false, false, false, false, false, false, false, false, false, false, false, false, false, false, false, false, false, false, false, false]
  | 78, 0 => [true, false, false, false, false, false, true, true, true, true, false, false, false, false, false, false, false, false, false, false, false, false, false, false, false, false, false, false, false, false, false, false, false, false, false, false, false, false, false, false, false, false, false, false, false, false, false, false, false, false, false, false, false, false, false, false]
  | 78, 2 => [true, false, false, false, false, false, true, true, false, false, true, false, false, false, false, false, false, false, false, false, false, false, false, false, false, false, false, false, false, false, false, false, false, false, false, false, false, false, false, false, false, false, false, false, false, false, false, false, false, false, false, false, false, false, false, false]
  | 79, 0 => [true, true, false, false, false, false, true, true, true, true, false, false, false, false, false, false, false, false, false, false, false, false, false, false, false, false, false, false, false, false, false, false, false, false, false, false, false, false, false, false, false, false, false, false, false, false, false, false, false, false, false, false, false, false, false, false, false, false, false, false, false, false, false, false, false]
  | 81, 0 => [true, false, false, false, false, false, true, true, false, false, false, false, false, false, false, false, false, false, false, false, false, false, false, false, false, false, false, false, false, false, false, false]
  | 82, 0 => [true, true, true, false, false, false, false, true, true, false, false, false, false, false, false, false, false, false, false, false, false, false, false, false, false, false, false, false, false, false, false, false, false, false, false, false, false, false, false, false, false, false, false, false, false, false, false, false, false, false, false, false, false, false, false, false, false, false, false, false, false, false, false, false, false, false, false, false, false, false, false, false, false, false, false, false, false, false, false, false, false, false, false, false, false, false, false, false, false, false, false, false, false, false, false, false, false, false, false, false, false, false, false, false, false, false, false, false, false, false, false, false, false, false, false, false, false, false, false, false, false, false, false, false, false, false, false, false, false, false, false, false, false]
  | 82, 2 => [true, true, true, false, false, false, false, true, true, false, false, false, false, false, false, false, false, false, false, false, false, false, false, false, false, false, false, false, false, false, false, false, false, false, false, false, false, false, false, false, false, false, false, false, false, false, false, false, false, false, false, false, false, false, false, false, false, false, false, false, false, false, false, false, false, false, false, false, false, false, false, false, false, false, false, false, false, false, false, false, false, false, false, false, false, false, false, false, false, false, false, false, false, false, false, false, false, false, false, false, false, false, false, false, false, false, false, false, false, false, false, false, false, false, false, false, false, false, false, false, false, false, false, false, false, false, false, false, false, false, false, false, false]
  | 82, 4 => [true, true, true, false, false, false, false, true, true, true, false, false, false, false, false, false, false, false, false, false, false, false, false, false, false, false, false, false, false, false, false, false, false, false, false, false, false, false, false, false, false, false, false, false, false, false, false, false, false, false, false, false, false, false, false, false, false, false, false, false, false, false, false, false, false, false, false, false, false, false, false, false, false, false, false, false, false, false, false, false, false, false, false, false, false, false, false, false, false, false, false, false, false, false, false, false, false, false, false, false, false, false, false, false, false, false, false, false, false, false, false, false, false, false, false, false, false, false, false, false, false, false, false, false, false, false, false, false, false, false, false, false, false]
  | 82, 6 => [true, true, true, false, false, false, false, true, true, false, true, false, false, false, false, false, false, false, false, false, false, false, false, false, false, false, false, false, false, false, false, false, false, false, false, false, false, false, false, false, false, false, false, false, false, false, false, false, false, false, false, false, false, false, false, false, false, false, false, false, false, false, false, false, false, false, false, false, false, false, false, false, false, false, false, false, false, false, false, false, false, false, false, false, false, false, false, false, false, false, false, false, false, false, false, false, false, false, false, false, false, false, false, false, false, false, false, false, false, false, false, false, false, false, false, false, false, false, false, false, false, false, false, false, false, false, false, false, false, false, false, false, false]
  | 84, 0 => [true, true, false, false, false, false, false, false, false, true, true, false, false, false, false, false, false, false, false, false, false, false, false, false, false, false, false, false, false, false, false, false, false, false, false, false, false, false, false, false, false, false, false, false, false, false, false, false, false, false, false, false, false, false, false, false, false, false, false, false, false, false, false, false, false, false, false, false, false, false, false, false, false, false, false, false, false, false, false, false, false, false, false, false]
  | 84, 2 => [true, true, false, false, false, false, false, false, false, true, true, false, false, false, false, false, false, false, false, false, false, false, false, false, false, false, false, false, false, false, false, false, false, false, false, false, false, false, false, false, false, false, false, false, false, false, false, false, false, false, false, false, false, false, false, false, false, false, false, false, false, false, false, false, false, false, false, false, false, false, false, false, false, false, false, false, false, false, false, false, false, false, false, false]
  | 84, 4 => [true, true, false, false, false, false, false, false, false, true, true, false, false, false, false, false, false, false, false, false, false, false, false, false, false, false, false, false, false, false, false, false, false, false, false, false, false, false, false, false, false, false, false, false, false, false, false, false, false, false, false, false, false, false, false, false, false, false, false, false, false, false, false, false, false, false, false, false, false, false, false, false, false, false, false, false, false, false, false, false, false, false, false, false]
  | 85, 0 => [true, true, false, false, false, false, false, false, false, false, true, true, false, false, false, false, false, false, false, false, false, false, false, false, false, false, false, false, false, false, false, false, false, false, false, false, false, false, false, false, false, false, false, false, false, false, false, false, false, false, false, false, false, false, false, false, false, false, false, false, false, false, false, false, false, false, false, false, false, false, false, false, false, false, false, false, false, false, false, false, false, false, false, false, false, false, false, false, false, false, false, false, false, false, false, false, false, false, false, false, false, false, false, false, false, false, false, false, false, false, false, false, false, false, false, false, false, false, false, false, false, false, false, false, false, false, false, false, false, false, false, false, false, false, false, false, false, false, false, false, false, false, false, false, false, false, false, false, false, false, false, false, false, false, false, false, false, false, false, false, false, false, false, false, false, false, false, false]
  | 85, 2 => [true, true, false, false, false, false, false, false, false, false, true, true, false, false, false, false, false, false, false, false, false, false, false, false, false, false, false, false, false, false, false, false, false, false, false, false, false, false, false, false, false, false, false, false, false, false, false, false, false, false, false, false, false, false, false, false, false, false, false, false, false, false, false, false, false, false, false, false, false, false, false, false, false, false, false, false, false, false, false, false, false, false, false, false, false, false, false, false, false, false, false, false, false, false, false, false, false, false, false, false, false, false, false, false, false, false, false, false, false, false, false, false, false, false, false, false, false, false, false, false, false, false, false, false, false, false, false, false, false, false, false, false, false, false, false, false, false, false, false, false, false, false, false, false, false, false, false, false, false, false, false, false, false, false, false, false, false, false, false, false, false, false, false, false, false, false, false, false]
  | 85, 4 => [true, true, false, false, false, false, false, false, false, false, true, true, false, false, false, false, false, false, false, false, false, false, false, false, false, false, false, false, false, false, false, false, false, false, false, false, false, false, false, false, false, false, false, false, false, false, false, false, false, false, false, false, false, false, false, false, false, false, false, false, false, false, false, false, false, false, false, false, false, false, false, false, false, false, false, false, false, false, false, false, false, false, false, false, false, false, false, false, false, false, false, false, false, false, false, false, false, false, false, false, false, false, false, false, false, false, false, false, false, false, false, false, false, false, false, false, false, false, false, false, false, false, false, false, false, false, false, false, false, false, false, false, false, false, false, false, false, false, false, false, false, false, false, false, false, false, false, false, false, false, false, false, false, false, false, false, false, false, false, false, false, false, false, false, false, false, false, false]
  | 85, 6 => [true, true, false, false, false, false, false, false, false, false, true, true, false, false, false, false, false, false, false, false, false, false, false, false, false, false, false, false, false, false, false, false, false, false, false, false, false, false, false, false, false, false, false, false, false, false, false, false, false, false, false, false, false, false, false, false, false, false, false, false, false, false, false, false, false, false, false, false, false, false, false, false, false, false, false, false, false, false, false, false, false, false, false, false, false, false, false, false, false, false, false, false, false, false, false, false, false, false, false, false, false, false, false, false, false, false, false, false, false, false, false, false, false, false, false, false, false, false, false, false, false, false, false, false, false, false, false, false, false, false, false, false, false, false, false, false, false, false, false, false, false, false, false, false, false, false, false, false, false, false, false, false, false, false, false, false, false, false, false, false, false, false, false, false, false, false, false, false]
  | 85, 8 => [true, true, false, false, false, false, false, false, false, false, true, true, false, false, false, false, false, false, false, false, false, false, false, false, false, false, false, false, false, false, false, false, false, false, false, false, false, false, false, false, false, false, false, false, false, false, false, false, false, false, false, false, false, false, false, false, false, false, false, false, false, false, false, false, false, false, false, false, false, false, false, false, false, false, false, false, false, false, false, false, false, false, false, false, false, false, false, false, false, false, false, false, false, false, false, false, false, false, false, false, false, false, false, false, false, false, false, false, false, false, false, false, false, false, false, false, false, false, false, false, false, false, false, false, false, false, false, false, false, false, false, false, false, false, false, false, false, false, false, false, false, false, false, false, false, false, false, false, false, false, false, false, false, false, false, false, false, false, false, false, false, false, false, false, false, false, false, false]
  | 89, 0 => [true, false, true, true, false, false, false, false, true, false, false, false, false, false, false, false, false, false, false, false, false, false, false, false, false, false, false, false, false, false, false, false, false, false, false, false, false, false, false, false, false, false, false, false, false, false, false, false, false, false, false, false, false, false, false, false, false, false, false, false, false, false, false, false, false, false, false, false, false, false, false, false, false, false, false, false]
  | _, _ => []

def cfgA.plan (f k : Nat) : List Nat :=
  match f, k with
  | 3, 17 => [0, 1, 2, 3, 4, 5, 6, 7, 8, 9, 10, 11, 12, 13, 14, 15, 16, 17, 18, 19, 20, 21, 22, 23, 24, 25, 26, 27, 28, 29, 30, 31, 32]
  | 3, 23 => [0, 1, 2, 3, 4, 5, 6, 7, 8, 9]
  | 4, 6 => [0, 1, 3, 4, 2, 5, 6, 7]
  | 4, 15 => [0, 1, 2, 3, 4, 5, 6, 7, 8, 9, 10, 11, 12, 13, 14]
  | 5, 9 => [0, 1, 2, 3, 4, 5, 6, 7, 8, 9, 10]
  | 6, 8 => [2, 3, 0, 1, 4, 5, 6, 7, 8, 9]
  | 8, 5 => [0, 1, 2, 3, 5, 6, 7, 8, 4, 9, 10]
  | 9, 11 => [0, 1, 2, 3, 4, 5, 6, 7, 8, 9, 10, 11, 12, 13, 14, 15, 16, 17, 18, 19, 20, 21, 24, 22, 23, 25, 26, 27, 28, 29, 30, 31, 32, 33, 34, 35, 36, 37, 38, 39, 40, 41, 42, 43, 44, 45, 46, 47, 48, 49, 50, 51, 52, 53, 54, 55, 56, 57, 61, 58, 59, 60, 62, 63, 64, 65, 69, 66, 67, 68, 70, 71, 72, 73, 75, 77, 74, 76, 78, 79, 80, 81, 82, 83, 84, 85, 86, 87, 88, 89, 90, 91, 93, 92, 94, 95, 96]
  | 10, 15 => [0, 1, 2, 3, 4, 5, 6, 7, 8, 9]
  | 10, 17 => [0, 1, 3, 4, 2, 5, 6, 7, 8, 9, 11, 12, 10, 13, 14, 15, 16, 17, 18, 19, 21, 22, 23, 20, 24, 25, 26, 27]
  | 13, 4 => [0, 1, 2, 3, 4, 5, 6, 7, 8, 9, 10, 11, 12, 13, 14, 15, 16]
  | 14, 7 => [0, 1, 2, 3, 4, 6, 7, 5, 8, 9, 10]
  | 18, 4 => [0, 1, 2, 3, 4, 5, 6]
  | 18, 6 => [0, 1, 2, 3, 4, 5, 6]
  | 19, 8 => [0, 1, 2, 3, 4, 5, 6, 7, 8, 9, 10, 11, 12, 13, 14, 15, 16, 17, 18, 19]
  | 19, 9 => [0, 1, 2, 3, 4, 5, 6, 7, 8, 9, 10, 11, 12, 13, 14, 15, 16, 17, 18]
  | 25, 9 => [0, 1, 2, 3, 4, 5]
  | 28, 4 => [0, 1, 2, 3, 4, 5, 6, 7, 8, 9, 10, 11, 12, 13, 14, 15, 16, 17, 18, 19, 20, 21, 22, 23, 24, 25, 26, 27]
  | 28, 29 => [0, 1, 2, 3, 4, 5, 6, 7, 8, 9, 10, 11, 12, 13]
  | 29, 5 => [0, 1, 2, 3, 4, 5, 6, 7, 8, 9, 10, 11, 12, 13, 14, 15, 16, 17, 18, 19, 20, 21, 22, 23, 24, 25, 26, 27]
  | 30, 7 => [0, 1, 2, 3, 4, 5, 6, 7, 8, 9, 10, 11, 12, 13, 14, 15, 16, 17, 18, 19, 20, 21, 22, 23, 24, 25, 26, 27, 28, 29, 30, 31, 32]
  | 30, 8 => [0, 1, 2, 3, 4, 5, 6, 7, 8]
  | 33, 6 => [0, 1, 2, 3, 4, 5, 6, 7, 8]
  | 35, 6 => [0, 1, 2, 3, 4, 5, 6, 7, 8, 9, 10, 11, 12, 13, 14, 15, 16, 17, 18, 19, 20, 21, 22]
  | 36, 7 => [0, 1, 2, 3, 4, 6, 7, 8, 9, 10, 5, 11, 12, 13]
  | 37, 6 => [0, 1, 2, 3, 4, 5, 6, 7, 8]
  | 38, 4 => [0, 1, 2, 3, 4, 5, 6, 7, 8, 9, 10, 11, 12, 13, 14, 15, 16, 17, 18]
  | 40, 6 => [0, 1, 2, 3, 4, 5, 6, 7, 8, 9, 10, 11, 12, 13, 14, 15, 16, 17, 18, 19]
  | 40, 7 => [0, 1, 2, 3, 4, 5, 6, 7, 8, 9, 10, 11, 12, 13, 14, 15, 16, 17, 18, 19, 20]
  | 42, 1 => [0, 1, 2, 3]
  | 46, 1 => [0, 1, 2, 3, 5, 6, 7, 8, 4, 9, 10, 11, 12]
  | 48, 7 => [0, 1, 2, 3, 4, 5, 6, 7, 8, 9, 10, 11, 12, 13, 14, 15, 16, 17]
  | 56, 4 => [0, 1, 2, 3, 4, 5, 6]
  | 58, 6 => [0, 1, 2, 3, 4, 5, 6, 7, 8, 9]
  | 58, 11 => [0, 1, 2, 3, 4, 5, 6, 7, 8, 9]
  | 69, 17 => [0, 1, 2, 3, 4, 5, 6, 7, 8, 9, 10, 11, 12, 13, 14]
  | 77, 4 => [0, 1, 2, 3, 4, 5, 6, 7, 8, 9, 10, 11, 12, 13, 14]
  | 77, 6 => [0, 1, 2, 3, 4, 5, 6, 7, 8, 9, 10, 11, 12, 13, 14, 15, 16, 17]
  | 78, 10 => [0, 1, 2, 3, 4, 5, 6, 7, 8, 9, 10, 11, 12, 13, 14, 15, 16, 17, 18, 19]
  | 79, 10 => [0, 1, 2, 3, 4, 5, 6, 7, 8, 9, 10, 11, 12, 13, 14, 15, 16, 17, 18, 19]
  | 81, 3 => [0, 1, 2, 3, 4, 5, 6, 7, 8, 9, 10, 11, 12, 13, 14, 15]
  | 82, 5 => [0, 1, 2, 3, 4, 5, 6, 7, 8, 9, 10, 11, 12, 13, 14, 15]
  | 82, 11 => [0, 1, 2, 3, 4, 5, 6, 7, 8, 9, 10, 11, 12, 13, 14, 15, 16, 17]
  | 82, 16 => [0, 1, 2, 3, 4, 5, 6, 7, 8, 9, 10]
  | 82, 17 => [0, 1, 2, 3, 4, 5, 6, 7, 8, 9, 10, 11, 12, 13, 14, 15, 16, 17]
  | 82, 22 => [0, 1, 2, 3, 4, 5, 6, 7, 8, 9, 10]
  | 82, 23 => [0, 1, 2, 3, 4, 5, 6, 7, 8, 9, 10, 11, 12, 13, 14, 15, 16, 17]
  | 84, 1 => [0, 1, 2, 3, 4, 5, 6, 7, 8, 9, 10, 11, 12, 13, 14, 15]
  | 84, 3 => [0, 1, 2, 3, 4, 5, 6, 7, 8, 9, 10, 11, 12, 13, 14]
  | 84, 5 => [0, 1, 2, 3, 4, 5, 6, 7, 8, 9, 10, 11, 12, 13]
  | 84, 8 => [0, 1, 2, 3, 4, 5, 6, 7, 8, 9, 10, 11, 12, 13, 14, 15]
  | 85, 1 => [0, 1, 2, 3, 4, 5, 6, 7, 8, 9, 10, 11, 12, 13, 14, 15]
  | 85, 3 => [0, 1, 2, 3, 4, 5, 6, 7, 8, 9, 10, 11, 12, 13]
  | 85, 5 => [0, 1, 2, 3, 4, 5, 6, 7, 8, 9, 10, 11, 12, 13, 14]
  | 85, 8 => [0, 1, 2, 3, 4, 5, 6, 7, 8, 9, 10, 11, 12, 13, 14, 15]
  | 85, 10 => [0, 1, 2, 3, 4, 5, 6, 7, 8, 9, 10, 11, 12, 13, 14, 15]
  | 85, 13 => [0, 1, 2, 3, 4, 5, 6, 7, 8, 9, 10, 11, 12, 13]
  | 85, 15 => [0, 1, 2, 3, 4, 5, 6, 7, 8, 9, 10, 11, 12, 13, 14]
  | 85, 18 => [0, 1, 2, 3, 4, 5, 6, 7, 8, 9, 10, 11, 12, 13, 14, 15]
  | 85, 21 => [0, 1, 2, 3, 4, 5, 6, 7, 8, 9, 10, 11, 12, 13, 14, 15]
  | 89, 3 => [0, 1, 2, 3, 4, 5, 6, 7, 8, 9, 10, 11, 12, 13, 14, 15, 16, 17, 18, 19]
  | 89, 5 => [0, 1, 2, 3, 4, 5, 6, 7, 8, 9, 10, 11, 12, 13]
  | 89, 6 => [0, 1, 2, 3, 4, 5, 6, 7, 8, 9, 10, 11, 12, 13, 14, 15, 16, 17, 18, 19, 20, 21, 22, 23]
  | 91, 1 => [0, 1, 2, 3, 4, 5, 6, 7, 8, 9]
  | 91, 2 => [0, 1, 2, 3, 4, 5, 6, 7, 8, 9]
  | 91, 3 => [0, 1, 2, 3, 4, 5, 6, 7, 8, 9]
  | 96, 1 => [0, 1, 2, 3, 4, 5, 6, 7, 8]
  | _, _ => []

def cfgA.tree (f k : Nat) : PT :=
  match f, k with
  | 3, 17 => .rd 0 (.rd 1 (.rd 2 (.rd 3 (.rd 4 (.rd 5 (.rd 6 (.rd 7 (.rd 8 (.rd 9 (.rd 10 (.rd 11 (.rd 12 (.rd 13 (.rd 14 (.rd 15 (.rd 16 (.rd 17 (.rd 18 (.rd 19 (.rd 20 (.rd 21 (.rd 22 (.rd 23 (.rd 24 (.rd 25 (.rd 26 (.rd 27 (.rd 28 (.rd 29 (.rd 30 (.rd 31 (.rd 32 (.done)))))))))))))))))))))))))))))))))
  | 3, 23 => .rd 0 (.rd 1 (.rd 2 (.rd 3 (.rd 4 (.rd 5 (.rd 6 (.rd 7 (.rd 8 (.rd 9 (.done))))))))))
  | 4, 6 => .rd 0 (.rd 1 (.rd 3 (.rd 4 (.mv 2 (.mv 5 (.mv 6 (.mv 7 (.done) (.stop)) (.stop)) (.stop)) (.stop)))))
  | 4, 15 => .rd 0 (.rd 1 (.rd 2 (.rd 3 (.rd 4 (.rd 5 (.rd 6 (.rd 7 (.rd 8 (.rd 9 (.rd 10 (.rd 11 (.rd 12 (.rd 13 (.rd 14 (.done)))))))))))))))
  | 5, 9 => .rd 0 (.mv 1 (.rd 2 (.mv 3 (.mv 4 (.mv 5 (.rd 6 (.rd 7 (.rd 8 (.mv 9 (.mv 10 (.done) (.stop)) (.stop))))) (.stop)) (.stop)) (.stop))) (.stop))
  | 6, 8 => .rd 2 (.rd 3 (.mv 0 (.mv 1 (.mv 4 (.rd 5 (.rd 6 (.rd 7 (.mv 8 (.mv 9 (.done) (.stop)) (.stop))))) (.stop)) (.stop)) (.stop)))
  | 8, 5 => .rd 0 (.rd 1 (.rd 2 (.rd 3 (.rd 5 (.rd 6 (.rd 7 (.rd 8 (.mv 4 (.mv 9 (.mv 10 (.done) (.stop)) (.stop)) (.stop)))))))))
  | 9, 11 => .rd 0 (.rd 1 (.rd 2 (.rd 3 (.rd 4 (.rd 5 (.rd 6 (.rd 7 (.rd 8 (.rd 9 (.rd 10 (.rd 11 (.rd 12 (.rd 13 (.rd 14 (.rd 15 (.rd 16 (.mv 17 (.rd 18 (.rd 19 (.rd 20 (.rd 21 (.rd 24 (.mv 22 (.mv 23 (.mv 25 (.rd 26 (.rd 27 (.rd 28 (.rd 29 (.rd 30 (.rd 31 (.rd 32 (.rd 33 (.rd 34 (.rd 35 (.rd 36 (.rd 37 (.rd 38 (.rd 39 (.rd 40 (.rd 41 (.rd 42 (.rd 43 (.rd 44 (.rd 45 (.mv 46 (.rd 47 (.rd 48 (.rd 49 (.rd 50 (.rd 51 (.rd 52 (.rd 53 (.rd 54 (.rd 55 (.rd 56 (.rd 57 (.rd 61 (.mv 58 (.mv 59 (.mv 60 (.mv 62 (.rd 63 (.rd 64 (.rd 65 (.rd 69 (.mv 66 (.mv 67 (.mv 68 (.mv 70 (.rd 71 (.rd 72 (.rd 73 (.rd 75 (.rd 77 (.mv 74 (.mv 76 (.mv 78 (.rd 79 (.rd 80 (.rd 81 (.mv 82 (.mv 83 (.mv 84 (.rd 85 (.rd 86 (.rd 87 (.rd 88 (.rd 89 (.rd 90 (.rd 91 (.rd 93 (.mv 92 (.mv 94 (.rd 95 (.mv 96 (.done) (.stop))) (.stop)) (.stop)))))))))) (.stop)) (.stop)) (.stop))))) (.stop)) (.stop)) (.stop))))))) (.stop)) (.stop)) (.stop)) (.stop)))))) (.stop)) (.stop)) (.stop)) (.stop)))))))))))))) (.stop)))))))))))))))))))))) (.stop)) (.stop)) (.stop))))))) (.stop))))))))))))))))))
  | 10, 15 => .rd 0 (.rd 1 (.rd 2 (.rd 3 (.rd 4 (.rd 5 (.rd 6 (.rd 7 (.mv 8 (.rd 9 (.done)) (.stop)))))))))
  | 10, 17 => .rd 0 (.rd 1 (.rd 3 (.rd 4 (.mv 2 (.mv 5 (.rd 6 (.rd 7 (.rd 8 (.rd 9 (.rd 11 (.rd 12 (.mv 10 (.mv 13 (.mv 14 (.rd 15 (.rd 16 (.rd 17 (.rd 18 (.rd 19 (.rd 21 (.rd 22 (.rd 23 (.mv 20 (.mv 24 (.mv 25 (.rd 26 (.mv 27 (.done) (.stop))) (.stop)) (.stop)) (.stop)))))))))) (.stop)) (.stop)) (.stop)))))))) (.stop)) (.stop)))))
  | 13, 4 => .rd 0 (.mv 1 (.rd 2 (.rd 3 (.rd 4 (.rd 5 (.rd 6 (.rd 7 (.rd 8 (.rd 9 (.rd 10 (.rd 11 (.rd 12 (.mv 13 (.rd 14 (.rd 15 (.rd 16 (.done)))) (.stop))))))))))))) (.stop))
  | 14, 7 => .rd 0 (.rd 1 (.rd 2 (.rd 3 (.rd 4 (.rd 6 (.rd 7 (.mv 5 (.mv 8 (.rd 9 (.mv 10 (.done) (.stop))) (.stop)) (.stop))))))))
  | 18, 4 => .rd 0 (.rd 1 (.rd 2 (.rd 3 (.rd 4 (.rd 5 (.rd 6 (.done)))))))
  | 18, 6 => .rd 0 (.rd 1 (.rd 2 (.rd 3 (.rd 4 (.rd 5 (.rd 6 (.done)))))))
  | 19, 8 => .rd 0 (.rd 1 (.rd 2 (.rd 3 (.rd 4 (.rd 5 (.rd 6 (.rd 7 (.rd 8 (.rd 9 (.rd 10 (.rd 11 (.rd 12 (.rd 13 (.rd 14 (.rd 15 (.mv 16 (.rd 17 (.rd 18 (.mv 19 (.done) (.stop)))) (.stop)))))))))))))))))
  | 19, 9 => .rd 0 (.rd 1 (.rd 2 (.rd 3 (.rd 4 (.rd 5 (.rd 6 (.rd 7 (.rd 8 (.rd 9 (.rd 10 (.rd 11 (.rd 12 (.rd 13 (.rd 14 (.mv 15 (.rd 16 (.rd 17 (.mv 18 (.done) (.stop)))) (.stop))))))))))))))))
  | 25, 9 => .rd 0 (.rd 1 (.rd 2 (.mv 3 (.mv 4 (.mv 5 (.done) (.stop)) (.stop)) (.stop))))
  | 28, 4 => .rd 0 (.rd 1 (.rd 2 (.rd 3 (.rd 4 (.rd 5 (.rd 6 (.rd 7 (.rd 8 (.rd 9 (.rd 10 (.rd 11 (.rd 12 (.rd 13 (.rd 14 (.rd 15 (.rd 16 (.rd 17 (.rd 18 (.rd 19 (.rd 20 (.rd 21 (.rd 22 (.rd 23 (.rd 24 (.mv 25 (.rd 26 (.rd 27 (.done))) (.stop))))))))))))))))))))))))))
  | 28, 15 => .rd 0 (.rd 1 (.rd 2 (.rd 3 (.rd 4 (.rd 5 (.rd 6 (.rd 7 (.mv 8 (.mv 9 (.mv 10 (.mv 11 (.done) (.stop)) (.stop)) (.stop)) (.mv 9 (.mv 8 (.mv 10 (.mv 11 (.done) (.stop)) (.stop)) (.stop)) (.stop))))))))))
  | 28, 28 => .rd 0 (.rd 1 (.rd 2 (.rd 3 (.rd 4 (.rd 5 (.rd 6 (.mv 7 (.rd 8 (.rd 9 (.rd 10 (.mv 11 (.mv 12 (.mv 13 (.done) (.stop)) (.stop)) (.stop))))) (.mv 11 (.mv 7 (.rd 8 (.rd 9 (.rd 10 (.mv 12 (.mv 13 (.done) (.stop)) (.stop))))) (.stop)) (.stop)))))))))
  | 28, 29 => .rd 0 (.rd 1 (.rd 2 (.rd 3 (.rd 4 (.rd 5 (.rd 6 (.rd 7 (.mv 8 (.rd 9 (.rd 10 (.rd 11 (.mv 12 (.mv 13 (.done) (.stop)) (.stop))))) (.stop)))))))))
  | 29, 5 => .rd 0 (.rd 1 (.rd 2 (.rd 3 (.rd 4 (.rd 5 (.rd 6 (.rd 7 (.rd 8 (.rd 9 (.rd 10 (.rd 11 (.rd 12 (.rd 13 (.rd 14 (.rd 15 (.rd 16 (.rd 17 (.rd 18 (.rd 19 (.rd 20 (.rd 21 (.rd 22 (.rd 23 (.rd 24 (.rd 25 (.mv 26 (.mv 27 (.done) (.stop)) (.stop)))))))))))))))))))))))))))
  | 30, 6 => .rd 0 (.rd 1 (.rd 2 (.rd 3 (.rd 4 (.rd 5 (.mv 6 (.rd 7 (.rd 8 (.rd 9 (.mv 10 (.mv 11 (.mv 12 (.done) (.stop)) (.stop)) (.stop))))) (.mv 10 (.mv 6 (.rd 7 (.rd 8 (.rd 9 (.mv 11 (.mv 12 (.done) (.stop)) (.stop))))) (.stop)) (.stop))))))))
  | 30, 7 => .rd 0 (.rd 1 (.rd 2 (.rd 3 (.rd 4 (.rd 5 (.rd 6 (.rd 7 (.rd 8 (.rd 9 (.rd 10 (.rd 11 (.rd 12 (.rd 13 (.rd 14 (.rd 15 (.rd 16 (.mv 17 (.rd 18 (.rd 19 (.rd 20 (.rd 21 (.rd 22 (.rd 23 (.rd 24 (.rd 25 (.rd 26 (.rd 27 (.rd 28 (.mv 29 (.rd 30 (.rd 31 (.rd 32 (.done)))) (.stop))))))))))))) (.stop))))))))))))))))))
  | 30, 8 => .rd 0 (.rd 1 (.rd 2 (.rd 3 (.rd 4 (.rd 5 (.mv 6 (.mv 7 (.mv 8 (.done) (.stop)) (.stop)) (.stop)))))))
  | 33, 6 => .rd 0 (.rd 1 (.rd 2 (.rd 3 (.rd 4 (.rd 5 (.rd 6 (.rd 7 (.rd 8 (.done)))))))))
  | 35, 6 => .rd 0 (.rd 1 (.rd 2 (.rd 3 (.mv 4 (.rd 5 (.rd 6 (.rd 7 (.rd 8 (.rd 9 (.rd 10 (.rd 11 (.rd 12 (.rd 13 (.rd 14 (.rd 15 (.rd 16 (.rd 17 (.rd 18 (.mv 19 (.rd 20 (.rd 21 (.rd 22 (.done)))) (.stop)))))))))))))))) (.stop)))))
  | 36, 7 => .rd 0 (.rd 1 (.rd 2 (.rd 3 (.rd 4 (.rd 6 (.rd 7 (.rd 8 (.rd 9 (.rd 10 (.mv 5 (.mv 11 (.rd 12 (.mv 13 (.done) (.stop))) (.stop)) (.stop)))))))))))
  | 37, 6 => .rd 0 (.rd 1 (.rd 2 (.rd 3 (.rd 4 (.rd 5 (.rd 6 (.rd 7 (.rd 8 (.done)))))))))
  | 38, 4 => .rd 0 (.rd 1 (.rd 2 (.rd 3 (.rd 4 (.rd 5 (.rd 6 (.rd 7 (.rd 8 (.rd 9 (.rd 10 (.rd 11 (.rd 12 (.rd 13 (.rd 14 (.rd 15 (.mv 16 (.rd 17 (.rd 18 (.done))) (.stop)))))))))))))))))
  | 40, 6 => .rd 0 (.rd 1 (.rd 2 (.rd 3 (.rd 4 (.rd 5 (.rd 6 (.rd 7 (.rd 8 (.rd 9 (.rd 10 (.rd 11 (.rd 12 (.rd 13 (.rd 14 (.rd 15 (.mv 16 (.rd 17 (.rd 18 (.mv 19 (.done) (.stop)))) (.stop)))))))))))))))))
  | 40, 7 => .rd 0 (.rd 1 (.rd 2 (.rd 3 (.rd 4 (.rd 5 (.rd 6 (.rd 7 (.rd 8 (.rd 9 (.rd 10 (.rd 11 (.rd 12 (.rd 13 (.rd 14 (.rd 15 (.rd 16 (.mv 17 (.rd 18 (.rd 19 (.mv 20 (.done) (.stop)))) (.stop))))))))))))))))))
  | 42, 1 => .rd 0 (.rd 1 (.mv 2 (.mv 3 (.done) (.stop)) (.stop)))
  | 46, 1 => .rd 0 (.rd 1 (.rd 2 (.rd 3 (.rd 5 (.rd 6 (.rd 7 (.rd 8 (.mv 4 (.mv 9 (.rd 10 (.mv 11 (.mv 12 (.done) (.stop)) (.stop))) (.stop)) (.stop)))))))))
  | 48, 7 => .rd 0 (.mv 1 (.rd 2 (.rd 3 (.rd 4 (.rd 5 (.rd 6 (.mv 7 (.rd 8 (.rd 9 (.rd 10 (.rd 11 (.rd 12 (.rd 13 (.rd 14 (.rd 15 (.mv 16 (.rd 17 (.done)) (.stop)))))))))) (.stop))))))) (.stop))
  | 56, 4 => .rd 0 (.rd 1 (.rd 2 (.rd 3 (.rd 4 (.rd 5 (.rd 6 (.done)))))))
  | 58, 6 => .rd 0 (.rd 1 (.rd 2 (.rd 3 (.rd 4 (.rd 5 (.rd 6 (.rd 7 (.rd 8 (.rd 9 (.done))))))))))
  | 58, 11 => .rd 0 (.rd 1 (.rd 2 (.rd 3 (.rd 4 (.rd 5 (.rd 6 (.rd 7 (.rd 8 (.rd 9 (.done))))))))))
  | 69, 17 => .rd 0 (.rd 1 (.rd 2 (.rd 3 (.rd 4 (.rd 5 (.rd 6 (.rd 7 (.rd 8 (.rd 9 (.rd 10 (.rd 11 (.mv 12 (.rd 13 (.rd 14 (.done))) (.stop)))))))))))))
  | 77, 4 => .rd 0 (.rd 1 (.rd 2 (.rd 3 (.rd 4 (.rd 5 (.rd 6 (.rd 7 (.rd 8 (.rd 9 (.rd 10 (.rd 11 (.rd 12 (.mv 13 (.rd 14 (.done)) (.stop))))))))))))))
  | 77, 6 => .rd 0 (.rd 1 (.rd 2 (.rd 3 (.rd 4 (.rd 5 (.rd 6 (.rd 7 (.rd 8 (.rd 9 (.rd 10 (.rd 11 (.rd 12 (.rd 13 (.rd 14 (.mv 15 (.rd 16 (.mv 17 (.done) (.stop))) (.stop))))))))))))))))
  | 78, 10 => .rd 0 (.rd 1 (.rd 2 (.rd 3 (.rd 4 (.rd 5 (.rd 6 (.rd 7 (.rd 8 (.rd 9 (.rd 10 (.rd 11 (.rd 12 (.rd 13 (.rd 14 (.rd 15 (.rd 16 (.mv 17 (.rd 18 (.mv 19 (.done) (.stop))) (.stop))))))))))))))))))
  | 79, 10 => .rd 0 (.rd 1 (.rd 2 (.rd 3 (.rd 4 (.rd 5 (.rd 6 (.rd 7 (.rd 8 (.rd 9 (.rd 10 (.rd 11 (.rd 12 (.rd 13 (.rd 14 (.rd 15 (.rd 16 (.mv 17 (.rd 18 (.mv 19 (.done) (.stop))) (.stop))))))))))))))))))
  | 81, 3 => .rd 0 (.rd 1 (.rd 2 (.rd 3 (.rd 4 (.rd 5 (.rd 6 (.rd 7 (.rd 8 (.rd 9 (.rd 10 (.rd 11 (.rd 12 (.mv 13 (.rd 14 (.mv 15 (.done) (.stop))) (.stop))))))))))))))
  | 82, 5 => .rd 0 (.rd 1 (.rd 2 (.rd 3 (.rd 4 (.rd 5 (.rd 6 (.rd 7 (.rd 8 (.rd 9 (.rd 10 (.rd 11 (.rd 12 (.mv 13 (.rd 14 (.rd 15 (.done))) (.stop))))))))))))))
  | 82, 11 => .rd 0 (.rd 1 (.rd 2 (.rd 3 (.rd 4 (.rd 5 (.rd 6 (.rd 7 (.rd 8 (.rd 9 (.rd 10 (.rd 11 (.rd 12 (.rd 13 (.rd 14 (.mv 15 (.rd 16 (.mv 17 (.done) (.stop))) (.stop))))))))))))))))
  | 82, 16 => .rd 0 (.rd 1 (.rd 2 (.rd 3 (.rd 4 (.rd 5 (.rd 6 (.rd 7 (.rd 8 (.mv 9 (.rd 10 (.done)) (.stop))))))))))
  | 82, 17 => .rd 0 (.rd 1 (.rd 2 (.rd 3 (.rd 4 (.rd 5 (.rd 6 (.rd 7 (.rd 8 (.rd 9 (.rd 10 (.rd 11 (.rd 12 (.rd 13 (.rd 14 (.mv 15 (.rd 16 (.mv 17 (.done) (.stop))) (.stop))))))))))))))))
  | 82, 22 => .rd 0 (.rd 1 (.rd 2 (.rd 3 (.rd 4 (.rd 5 (.rd 6 (.rd 7 (.rd 8 (.mv 9 (.rd 10 (.done)) (.stop))))))))))
  | 82, 23 => .rd 0 (.rd 1 (.rd 2 (.rd 3 (.rd 4 (.rd 5 (.rd 6 (.rd 7 (.rd 8 (.rd 9 (.rd 10 (.rd 11 (.rd 12 (.rd 13 (.rd 14 (.mv 15 (.rd 16 (.mv 17 (.done) (.stop))) (.stop))))))))))))))))
  | 84, 1 => .rd 0 (.rd 1 (.rd 2 (.rd 3 (.rd 4 (.rd 5 (.rd 6 (.rd 7 (.rd 8 (.rd 9 (.rd 10 (.rd 11 (.rd 12 (.mv 13 (.rd 14 (.mv 15 (.done) (.stop))) (.stop))))))))))))))
  | 84, 3 => .rd 0 (.rd 1 (.rd 2 (.rd 3 (.rd 4 (.rd 5 (.rd 6 (.rd 7 (.rd 8 (.rd 9 (.rd 10 (.rd 11 (.mv 12 (.rd 13 (.rd 14 (.done))) (.stop)))))))))))))
  | 84, 5 => .rd 0 (.rd 1 (.rd 2 (.rd 3 (.rd 4 (.rd 5 (.rd 6 (.rd 7 (.rd 8 (.rd 9 (.rd 10 (.rd 11 (.mv 12 (.rd 13 (.done)) (.stop)))))))))))))
  | 84, 8 => .rd 0 (.rd 1 (.rd 2 (.rd 3 (.rd 4 (.rd 5 (.rd 6 (.rd 7 (.rd 8 (.rd 9 (.rd 10 (.rd 11 (.rd 12 (.mv 13 (.rd 14 (.mv 15 (.done) (.stop))) (.stop))))))))))))))
  | 85, 1 => .rd 0 (.rd 1 (.rd 2 (.rd 3 (.rd 4 (.rd 5 (.rd 6 (.rd 7 (.rd 8 (.rd 9 (.rd 10 (.rd 11 (.rd 12 (.mv 13 (.rd 14 (.mv 15 (.done) (.stop))) (.stop))))))))))))))
  | 85, 3 => .rd 0 (.rd 1 (.rd 2 (.rd 3 (.rd 4 (.rd 5 (.rd 6 (.rd 7 (.rd 8 (.rd 9 (.rd 10 (.rd 11 (.mv 12 (.rd 13 (.done)) (.stop)))))))))))))
  | 85, 5 => .rd 0 (.rd 1 (.rd 2 (.rd 3 (.rd 4 (.rd 5 (.rd 6 (.rd 7 (.rd 8 (.rd 9 (.rd 10 (.rd 11 (.mv 12 (.rd 13 (.rd 14 (.done))) (.stop)))))))))))))
  | 85, 8 => .rd 0 (.rd 1 (.rd 2 (.rd 3 (.rd 4 (.rd 5 (.rd 6 (.rd 7 (.rd 8 (.rd 9 (.rd 10 (.rd 11 (.rd 12 (.mv 13 (.rd 14 (.mv 15 (.done) (.stop))) (.stop))))))))))))))
  | 85, 10 => .rd 0 (.rd 1 (.rd 2 (.rd 3 (.rd 4 (.rd 5 (.rd 6 (.rd 7 (.rd 8 (.rd 9 (.rd 10 (.rd 11 (.rd 12 (.mv 13 (.rd 14 (.mv 15 (.done) (.stop))) (.stop))))))))))))))
  | 85, 13 => .rd 0 (.rd 1 (.rd 2 (.rd 3 (.rd 4 (.rd 5 (.rd 6 (.rd 7 (.rd 8 (.rd 9 (.rd 10 (.rd 11 (.mv 12 (.rd 13 (.done)) (.stop)))))))))))))
  | 85, 15 => .rd 0 (.rd 1 (.rd 2 (.rd 3 (.rd 4 (.rd 5 (.rd 6 (.rd 7 (.rd 8 (.rd 9 (.rd 10 (.rd 11 (.mv 12 (.rd 13 (.rd 14 (.done))) (.stop)))))))))))))
  | 85, 18 => .rd 0 (.rd 1 (.rd 2 (.rd 3 (.rd 4 (.rd 5 (.rd 6 (.rd 7 (.rd 8 (.rd 9 (.rd 10 (.rd 11 (.rd 12 (.mv 13 (.rd 14 (.mv 15 (.done) (.stop))) (.stop))))))))))))))
  | 85, 21 => .rd 0 (.rd 1 (.rd 2 (.rd 3 (.rd 4 (.rd 5 (.rd 6 (.rd 7 (.rd 8 (.rd 9 (.rd 10 (.rd 11 (.rd 12 (.mv 13 (.rd 14 (.mv 15 (.done) (.stop))) (.stop))))))))))))))
  | 89, 3 => .rd 0 (.rd 1 (.rd 2 (.rd 3 (.rd 4 (.rd 5 (.rd 6 (.rd 7 (.rd 8 (.rd 9 (.rd 10 (.rd 11 (.rd 12 (.rd 13 (.rd 14 (.rd 15 (.rd 16 (.rd 17 (.mv 18 (.rd 19 (.done)) (.stop)))))))))))))))))))
  | 89, 5 => .rd 0 (.rd 1 (.rd 2 (.rd 3 (.rd 4 (.rd 5 (.rd 6 (.rd 7 (.rd 8 (.rd 9 (.rd 10 (.rd 11 (.mv 12 (.rd 13 (.done)) (.stop)))))))))))))
  | 89, 6 => .rd 0 (.rd 1 (.rd 2 (.rd 3 (.rd 4 (.rd 5 (.rd 6 (.rd 7 (.rd 8 (.rd 9 (.rd 10 (.rd 11 (.rd 12 (.rd 13 (.rd 14 (.rd 15 (.rd 16 (.rd 17 (.rd 18 (.rd 19 (.rd 20 (.mv 21 (.rd 22 (.mv 23 (.done) (.stop))) (.stop))))))))))))))))))))))
  | 91, 1 => .rd 0 (.rd 1 (.rd 2 (.rd 3 (.rd 4 (.rd 5 (.rd 6 (.rd 7 (.rd 8 (.mv 9 (.done) (.stop))))))))))
  | 91, 2 => .rd 0 (.rd 1 (.rd 2 (.rd 3 (.rd 4 (.rd 5 (.rd 6 (.rd 7 (.rd 8 (.mv 9 (.done) (.stop))))))))))
  | 91, 3 => .rd 0 (.rd 1 (.rd 2 (.rd 3 (.rd 4 (.rd 5 (.rd 6 (.rd 7 (.rd 8 (.mv 9 (.done) (.stop))))))))))
  | 96, 1 => .rd 0 (.rd 1 (.rd 2 (.rd 3 (.rd 4 (.rd 5 (.rd 6 (.rd 7 (.mv 8 (.done) (.stop)))))))))
  | _, _ => .stop

def cfgA.thaw (f d : Nat) : Bool := (f == 34 && d == 26)
def cfgA.freeze (f d : Nat) : Bool := (f == 34 && d == 4)
def cfgA : Cfg := { heap := cfgA.heap, take := cfgA.take, thaw := cfgA.thaw, freeze := cfgA.freeze, mask := cfgA.mask, plan := cfgA.plan, prim := fun f => match f with | 95 => some primIndexByte | 72 => some primCompare | _ => none }

theorem plans : plansOK Try.prog cfgA = true := by kernel_rfl
theorem trees : treesOK Try.prog cfgA cfgA.tree = true := by kernel_rfl
theorem named : (Try.prog.funcs.all fun fn => fn.name != "runtime.NumGoroutine") = true := by kernel_rfl

theorem names_ok : ∀ (f : FuncId) (fn : Func), Try.prog.funcs[f]? = some fn → fn.name ≠ "runtime.NumGoroutine" := by
  intro f fn hf
  have := Array.all_eq_true_iff_forall_mem.1 named fn (Array.mem_of_getElem? hf)
  simpa using this

theorem prims : PrimOK Try.prog cfgA := by
  intro f p hp args σ v σ' h g w ow xs r
  simp only [cfgA] at hp
  split at hp
  · injection hp with hp; subst hp
    exact indexByte_prim Try.func95 (by kernel_rfl) (by kernel_rfl) (by kernel_rfl) (by kernel_rfl) h r
  · injection hp with hp; subst hp
    exact compare_prim Try.func72 (by kernel_rfl) (by kernel_rfl) (by kernel_rfl) (by kernel_rfl) h r
  · cases hp

theorem sound (n : Nat) : Sound Try.prog (ev Try.prog cfgA n) := ev_sound Try.checked.mixed plans names_ok prims n

/-- The calls of this program. -/
abbrev E : CallW := EvW Try.prog cfgA cfgA.tree

theorem E_sound {t : Tgt} {args : List AV} {σ : St} {K : AV → St → Prop} (h : E t args σ K) : ModelW Try.prog t args σ K := EvW_sound Try.checked.mixed trees names_ok prims h

end Go.AM
namespace Go.AM
open Go Go.Proofs
set_option maxRecDepth 20000
theorem low_key_text : lowFn Try.prog cfgA cfgA.tree 60 = some (C_key_text) := by kernel_rfl
theorem low_key_Of : lowFn Try.prog cfgA cfgA.tree 59 = some (C_key_Of 71) := by kernel_rfl
theorem low_key_Good : lowFn Try.prog cfgA cfgA.tree 41 = some (C_key_Good 60 59) := by kernel_rfl
theorem low_key_Cmp : lowFn Try.prog cfgA cfgA.tree 42 = some (C_key_Cmp 61) := by kernel_rfl
theorem low_bytes_Compare : lowFn Try.prog cfgA cfgA.tree 61 = some (C_bytes_Compare 72) := by kernel_rfl
theorem low_strings_IndexByte : lowFn Try.prog cfgA cfgA.tree 71 = some (C_strings_IndexByte 88) := by kernel_rfl
theorem low_internal_stringslite_IndexByte : lowFn Try.prog cfgA cfgA.tree 88 = some (C_internal_stringslite_IndexByte 95) := by kernel_rfl
theorem low_hourglassref10_Of : lowFn Try.prog cfgA cfgA.tree 44 = some (C_hourglassref10_Of) := by kernel_rfl
theorem low_hourglassref10_Good : lowFn Try.prog cfgA cfgA.tree 16 = some (C_hourglassref10_Good) := by kernel_rfl
theorem low_hourglassref10_Cmp : lowFn Try.prog cfgA cfgA.tree 18 = some (C_hourglassref10_Cmp) := by kernel_rfl
theorem low_hourglassref10_Within : lowFn Try.prog cfgA cfgA.tree 20 = some (C_hourglassref10_Within 18) := by kernel_rfl
theorem low_slices_Clone_Key : lowFn Try.prog cfgA cfgA.tree 43 = some (C_slices_Clone_Key) := by kernel_rfl
theorem low_route_New : lowFn Try.prog cfgA cfgA.tree 13 = some (C_route_New 41 42 43) := by kernel_rfl
theorem low_route_Table_Nodes : lowFn Try.prog cfgA cfgA.tree 17 = some (C_route_Table_Nodes) := by kernel_rfl
theorem low_route_Table_Of : lowFn Try.prog cfgA cfgA.tree 15 = some (C_route_Table_Of 41 42) := by kernel_rfl
theorem low_route_Table_Cover : lowFn Try.prog cfgA cfgA.tree 19 = some (C_route_Table_Cover 42 17) := by kernel_rfl
theorem low_hourglasslaw17_k : lowFn Try.prog cfgA cfgA.tree 32 = some (C_hourglasslaw17_k 44) := by kernel_rfl
theorem low_hourglasslaw17_awake : lowFn Try.prog cfgA cfgA.tree 11 = some (C_hourglasslaw17_awake 32 13 15 17) := by kernel_rfl
theorem low_hourglasslaw17_RouteWhole : lowFn Try.prog cfgA cfgA.tree 4 = some (C_hourglasslaw17_RouteWhole 11 13 16 15 17 18 19 20) := by kernel_rfl
end Go.AM
namespace Go.AM
open Go
set_option maxRecDepth 20000
set_option linter.unusedSimpArgs false
def textOf (k : Key) : List UInt8 := k.b.takeWhile (· != 0)
theorem take_stop {l : List UInt8} {i : Nat} (h : i ≤ l.length) (hall : ∀ j, (hj : j < i) → l[j]'(by omega) ≠ 0) (hs : ∀ hi : i < l.length, l[i] = 0) : l.take i = l.takeWhile (· != 0) := by
  induction l generalizing i with
  | nil => simp
  | cons x l ih =>
    cases i with
    | zero =>
      have := hs (by simp)
      simp at this
      subst this; simp
    | succ i =>
      have h0 := hall 0 (by omega)
      simp at h0
      rw [List.take_succ_cons, List.takeWhile_cons]
      have hx : (x != 0) = true := by simpa using h0
      rw [hx]
      simp only [if_true]
      rw [ih (by simpa using h) (fun j hj => by have := hall (j + 1) (by omega); simpa using this) fun hi => by have := hs (by simpa using hi); simpa using this]
set_option maxHeartbeats 1000000 in
theorem key_text_spec {C : CallW} (hC : LeC C C) (P : Program) (k : Key) (S : List (List AV)) (H : List HObj) (K : AV → St → Prop) (hK : K (.str (textOf k)) ⟨S, H⟩) : runL C P C_key_text [.agg k.c] ⟨S, H⟩ K := by
  simp only [C_key_text, RUN_, u_C_key_text_k1, u_C_key_text_k2, u_C_key_text_k3, u_C_key_text_k4, FR_, Nat.reducePow, Int.reducePow, Nat.reduceAdd, Nat.reduceSub, Nat.reduceMul, Int.reduceToNat, Nat.reduceLeDiff, Nat.reduceEqDiff, Nat.reduceLT, Nat.reduceGT, Int.reduceGT, Int.reduceGE, Int.reduceLT, Int.reduceLE, Int.reduceEq, Int.reduceAdd, Int.reduceSub, Int.reduceNeg, reduceCtorEq, if_true, if_false, ite_true, ite_false, ne_eq, binL, scBin, blBin, intBin, intShift, unL, load1L, storeL, readA, readCells, writeCells, splice, mayHold, boxOf_stk, boxOf_heap, setBox_stk, setBox_heap, newBox_stk, newBox_heap, app_get0, app_get, app_set0, app_set, app_take, app_one, List.length_append, shift, partL, lenL, capL, Nat.add_assoc, AV.under, AV.under.go, finL, under_bs]
  refine loop_rule hC (α := Nat) (fun i => 16 - i) (fun i => [.undef, .ptr (.stk S.length) 0, .undef, .s (.int .i64 i), .undef, .undef, .undef, .undef, .undef, .undef, .undef, .undef, .undef, .undef, .undef, .undef, .undef]) (fun _ => S ++ [k.c]) (fun _ => H) (fun i => i ≤ 16 ∧ ∀ j, (hj : j < i) → (hj' : j < k.b.length) → k.b[j] ≠ 0) 0 ⟨by omega, fun j hj => by omega⟩ rfl (app_take_add _ _ _) rfl (fun i hi => by simp [AV.under, AV.under.go]) ?_
  rintro i ⟨hi, hall⟩ ih
  have hkl := k.h
  by_cases h16 : i < 16
  · have hb := bs_get (l := k.b) (i := i) (by omega)
    have hw : IntKind.i64.wrap ((i : Int) + 1) = ((i + 1 : Nat) : Int) := by rw [wrap_i64 (by omega) (by omega)]; rfl
    have h1 : ((i : Int) < 16) := by omega
    have h2 : (0 : Int) ≤ (i : Int) := by omega
    by_cases hz : k.b[i]'(by omega) = 0
    · have hc := conv_row (σ := ⟨S ++ [k.c], H⟩) (r := .stk S.length) (off := 0) (len := i) (cap := 16) (l := k.b) (by rw [boxOf_stk, app_get0]; rfl) (by omega)
      rw [List.drop_zero, take_stop (by omega) (fun j hj => hall j hj (by omega)) (fun _ => hz)] at hc
      simp only [RUN_, u_C_key_text_k1, u_C_key_text_k2, u_C_key_text_k3, u_C_key_text_k4, FR_, Nat.reducePow, Int.reducePow, Nat.reduceAdd, Nat.reduceSub, Nat.reduceMul, Int.reduceToNat, Nat.reduceLeDiff, Nat.reduceEqDiff, Nat.reduceLT, Nat.reduceGT, Int.reduceGT, Int.reduceGE, Int.reduceLT, Int.reduceLE, Int.reduceEq, Int.reduceAdd, Int.reduceSub, Int.reduceNeg, reduceCtorEq, if_true, if_false, ite_true, ite_false, ne_eq, binL, scBin, blBin, intBin, intShift, unL, load1L, storeL, readA, readCells, writeCells, splice, mayHold, boxOf_stk, boxOf_heap, setBox_stk, setBox_heap, newBox_stk, newBox_heap, app_get0, app_get, app_set0, app_set, app_take, app_one, List.length_append, shift, partL, lenL, capL, Nat.add_assoc, AV.under, AV.under.go, finL, indexAddrL, h1, h2, hb, Int.toNat_natCast, Nat.mul_one, u8, hz, sliceL, bound, Option.map_some, Nat.zero_le, hi, UInt8.toNat_zero, hc, Nat.sub_zero]
      exact hK
    · have hz' : ¬ (((k.b[i]'(by omega)).toNat : Int) = 0) := fun e => hz (by
        have : (k.b[i]'(by omega)).toNat = 0 := by omega
        exact UInt8.toNat_inj.1 this)
      simp only [RUN_, u_C_key_text_k1, u_C_key_text_k2, u_C_key_text_k3, u_C_key_text_k4, FR_, Nat.reducePow, Int.reducePow, Nat.reduceAdd, Nat.reduceSub, Nat.reduceMul, Int.reduceToNat, Nat.reduceLeDiff, Nat.reduceEqDiff, Nat.reduceLT, Nat.reduceGT, Int.reduceGT, Int.reduceGE, Int.reduceLT, Int.reduceLE, Int.reduceEq, Int.reduceAdd, Int.reduceSub, Int.reduceNeg, reduceCtorEq, if_true, if_false, ite_true, ite_false, ne_eq, binL, scBin, blBin, intBin, intShift, unL, load1L, storeL, readA, readCells, writeCells, splice, mayHold, boxOf_stk, boxOf_heap, setBox_stk, setBox_heap, newBox_stk, newBox_heap, app_get0, app_get, app_set0, app_set, app_take, app_one, List.length_append, shift, partL, lenL, capL, Nat.add_assoc, AV.under, AV.under.go, finL, indexAddrL, h1, h2, hb, Int.toNat_natCast, Nat.mul_one, u8, hz', hw]
      exact ih (i + 1) _ _ _ (by omega) ⟨by omega, fun j hj hj' => by
        rcases Nat.lt_or_ge j i with h | h
        · exact hall j h hj'
        · have : j = i := by omega
          subst this; exact hz⟩ rfl (app_take_add _ _ _) rfl
  · have h1 : ¬ ((i : Int) < 16) := by omega
    have h16' : i = 16 := by omega
    have h2 : (0 : Int) ≤ (i : Int) := by omega
    have hc := conv_row (σ := ⟨S ++ [k.c], H⟩) (r := .stk S.length) (off := 0) (len := i) (cap := 16) (l := k.b) (by rw [boxOf_stk, app_get0]; rfl) (by omega)
    rw [List.drop_zero, take_stop (by omega) (fun j hj => hall j hj (by omega)) (fun h => by omega)] at hc
    simp only [RUN_, u_C_key_text_k1, u_C_key_text_k2, u_C_key_text_k3, u_C_key_text_k4, FR_, Nat.reducePow, Int.reducePow, Nat.reduceAdd, Nat.reduceSub, Nat.reduceMul, Int.reduceToNat, Nat.reduceLeDiff, Nat.reduceEqDiff, Nat.reduceLT, Nat.reduceGT, Int.reduceGT, Int.reduceGE, Int.reduceLT, Int.reduceLE, Int.reduceEq, Int.reduceAdd, Int.reduceSub, Int.reduceNeg, reduceCtorEq, if_true, if_false, ite_true, ite_false, ne_eq, binL, scBin, blBin, intBin, intShift, unL, load1L, storeL, readA, readCells, writeCells, splice, mayHold, boxOf_stk, boxOf_heap, setBox_stk, setBox_heap, newBox_stk, newBox_heap, app_get0, app_get, app_set0, app_set, app_take, app_one, List.length_append, shift, partL, lenL, capL, Nat.add_assoc, AV.under, AV.under.go, finL, h1, h2, sliceL, bound, Option.map_some, Nat.zero_le, hi, hc, Nat.sub_zero, Int.toNat_natCast]
    exact hK
end Go.AM
/-! Keys: what the functions of key and of hourglassref10 answer. -/
namespace Go.AM
open Go
set_option maxRecDepth 20000
set_option linter.unusedSimpArgs false
set_option linter.unusedVariables false

def CmpB (C : CallW) (f : FuncId) : Prop := ∀ (a b : List UInt8) (S : List (List AV)) (H : List HObj) (r1 r2 : Nat) (K : AV → St → Prop), S[r1]? = some (bs a) → S[r2]? = some (bs b) → a.length = 16 → b.length = 16 →
  K (.i (Lib.compareBytes a b)) ⟨S, H⟩ → C (.fn f) [.row (.stk r1) 0 16 16, .row (.stk r2) 0 16 16] ⟨S, H⟩ K
def KCmp (C : CallW) (f : FuncId) : Prop := ∀ (a b : Key) S H K, K (.i (Lib.compareBytes a.b b.b)) ⟨S, H⟩ → C (.fn f) [.agg (bs a.b), .agg (bs b.b)] ⟨S, H⟩ K

set_option maxHeartbeats 1000000 in
theorem bytes_Compare_spec {C : CallW} (hC : LeC C C) (P : Program) {f : FuncId} (hf : CmpB C f) : ∀ (a b : List UInt8) (S : List (List AV)) (H : List HObj) (r1 r2 : Nat) (K : AV → St → Prop), S[r1]? = some (bs a) → S[r2]? = some (bs b) → a.length = 16 → b.length = 16 →
  K (.i (Lib.compareBytes a b)) ⟨S, H⟩ → runL C P (C_bytes_Compare f) [.row (.stk r1) 0 16 16, .row (.stk r2) 0 16 16] ⟨S, H⟩ K := by
  intro a b S H r1 r2 K h1 h2 ha hb hK
  simp only [C_bytes_Compare, RUN_, u_C_bytes_Compare_k1, FR_, Nat.reducePow, Int.reducePow, Nat.reduceAdd, Nat.reduceSub, Nat.reduceMul, Int.reduceToNat, Nat.reduceLeDiff, Nat.reduceEqDiff, Nat.reduceLT, Nat.reduceGT, Int.reduceGT, Int.reduceGE, Int.reduceLT, Int.reduceLE, Int.reduceEq, Int.reduceAdd, Int.reduceSub, Int.reduceNeg, reduceCtorEq, if_true, if_false, ite_true, ite_false, ne_eq, OPK_, KEY_]
  refine hf a b S H r1 r2 _ h1 h2 ha hb ?_
  simp only [RUN_, u_C_bytes_Compare_k1, FR_, Nat.reducePow, Int.reducePow, Nat.reduceAdd, Nat.reduceSub, Nat.reduceMul, Int.reduceToNat, Nat.reduceLeDiff, Nat.reduceEqDiff, Nat.reduceLT, Nat.reduceGT, Int.reduceGT, Int.reduceGE, Int.reduceLT, Int.reduceLE, Int.reduceEq, Int.reduceAdd, Int.reduceSub, Int.reduceNeg, reduceCtorEq, if_true, if_false, ite_true, ite_false, ne_eq, OPK_, KEY_, List.take_length]
  exact hK

set_option maxHeartbeats 1000000 in
theorem key_Cmp_spec {C : CallW} (hC : LeC C C) (P : Program) {f : FuncId} (hf : CmpB C f) : ∀ (a b : Key) S H K, K (.i (Lib.compareBytes a.b b.b)) ⟨S, H⟩ → runL C P (C_key_Cmp f) [.agg (bs a.b), .agg (bs b.b)] ⟨S, H⟩ K := by
  intro a b S H K hK
  simp only [C_key_Cmp, RUN_, u_C_key_Cmp_k1, FR_, Nat.reducePow, Int.reducePow, Nat.reduceAdd, Nat.reduceSub, Nat.reduceMul, Int.reduceToNat, Nat.reduceLeDiff, Nat.reduceEqDiff, Nat.reduceLT, Nat.reduceGT, Int.reduceGT, Int.reduceGE, Int.reduceLT, Int.reduceLE, Int.reduceEq, Int.reduceAdd, Int.reduceSub, Int.reduceNeg, reduceCtorEq, if_true, if_false, ite_true, ite_false, ne_eq, OPK_, KEY_]
  refine hf a.b b.b _ _ _ _ _ ?_ ?_ a.h b.h ?_
  · simp
  · simp
  simp only [RUN_, u_C_key_Cmp_k1, FR_, Nat.reducePow, Int.reducePow, Nat.reduceAdd, Nat.reduceSub, Nat.reduceMul, Int.reduceToNat, Nat.reduceLeDiff, Nat.reduceEqDiff, Nat.reduceLT, Nat.reduceGT, Int.reduceGT, Int.reduceGE, Int.reduceLT, Int.reduceLE, Int.reduceEq, Int.reduceAdd, Int.reduceSub, Int.reduceNeg, reduceCtorEq, if_true, if_false, ite_true, ite_false, ne_eq, OPK_, KEY_]
  exact hK

def IdxS (C : CallW) (f : FuncId) : Prop := ∀ (l : List UInt8) (S : List (List AV)) (H : List HObj) (K : AV → St → Prop), K (.i (Lib.indexByte l 0)) ⟨S, H⟩ → C (.fn f) [.s (.str l), .s (.int .u8 0)] ⟨S, H⟩ K

theorem strings_IndexByte_spec {C : CallW} (hC : LeC C C) (P : Program) {f : FuncId} (hf : IdxS C f) : ∀ (l : List UInt8) (S : List (List AV)) (H : List HObj) (K : AV → St → Prop), K (.i (Lib.indexByte l 0)) ⟨S, H⟩ → runL C P (C_strings_IndexByte f) [.s (.str l), .s (.int .u8 0)] ⟨S, H⟩ K := by
  intro l S H K hK
  simp only [C_strings_IndexByte, RUN_, u_C_strings_IndexByte_k1, FR_, Nat.reducePow, Int.reducePow, Nat.reduceAdd, Nat.reduceSub, Nat.reduceMul, Int.reduceToNat, Nat.reduceLeDiff, Nat.reduceEqDiff, Nat.reduceLT, Nat.reduceGT, Int.reduceGT, Int.reduceGE, Int.reduceLT, Int.reduceLE, Int.reduceEq, Int.reduceAdd, Int.reduceSub, Int.reduceNeg, reduceCtorEq, if_true, if_false, ite_true, ite_false, ne_eq, OPK_, KEY_]
  refine hf _ _ _ _ ?_
  simp only [RUN_, u_C_strings_IndexByte_k1, FR_, Nat.reducePow, Int.reducePow, Nat.reduceAdd, Nat.reduceSub, Nat.reduceMul, Int.reduceToNat, Nat.reduceLeDiff, Nat.reduceEqDiff, Nat.reduceLT, Nat.reduceGT, Int.reduceGT, Int.reduceGE, Int.reduceLT, Int.reduceLE, Int.reduceEq, Int.reduceAdd, Int.reduceSub, Int.reduceNeg, reduceCtorEq, if_true, if_false, ite_true, ite_false, ne_eq, OPK_, KEY_, List.take_length]
  exact hK
theorem stringslite_IndexByte_spec {C : CallW} (hC : LeC C C) (P : Program) {f : FuncId} (hf : IdxS C f) : ∀ (l : List UInt8) (S : List (List AV)) (H : List HObj) (K : AV → St → Prop), K (.i (Lib.indexByte l 0)) ⟨S, H⟩ → runL C P (C_internal_stringslite_IndexByte f) [.s (.str l), .s (.int .u8 0)] ⟨S, H⟩ K := by
  intro l S H K hK
  simp only [C_internal_stringslite_IndexByte, RUN_, u_C_internal_stringslite_IndexByte_k1, FR_, Nat.reducePow, Int.reducePow, Nat.reduceAdd, Nat.reduceSub, Nat.reduceMul, Int.reduceToNat, Nat.reduceLeDiff, Nat.reduceEqDiff, Nat.reduceLT, Nat.reduceGT, Int.reduceGT, Int.reduceGE, Int.reduceLT, Int.reduceLE, Int.reduceEq, Int.reduceAdd, Int.reduceSub, Int.reduceNeg, reduceCtorEq, if_true, if_false, ite_true, ite_false, ne_eq, OPK_, KEY_]
  refine hf _ _ _ _ ?_
  simp only [RUN_, u_C_internal_stringslite_IndexByte_k1, FR_, Nat.reducePow, Int.reducePow, Nat.reduceAdd, Nat.reduceSub, Nat.reduceMul, Int.reduceToNat, Nat.reduceLeDiff, Nat.reduceEqDiff, Nat.reduceLT, Nat.reduceGT, Int.reduceGT, Int.reduceGE, Int.reduceLT, Int.reduceLE, Int.reduceEq, Int.reduceAdd, Int.reduceSub, Int.reduceNeg, reduceCtorEq, if_true, if_false, ite_true, ite_false, ne_eq, OPK_, KEY_, List.take_length]
  exact hK

/-- A text as a key's bytes. -/
def padB (s : List UInt8) : List UInt8 := s.take 16 ++ List.replicate (16 - s.length) 0
def padK (s : List UInt8) : Key := ⟨padB s, by simp [padB]; omega⟩
def badT (s : List UInt8) : Prop := s = [] ∨ 16 < s.length ∨ (0 : UInt8) ∈ s
instance (s : List UInt8) : Decidable (badT s) := inferInstanceAs (Decidable (_ ∨ _))
def keyOf (s : List UInt8) : Key × Int := if badT s then (key0, 1) else (padK s, 0)

theorem idx_neg {l : List UInt8} : Lib.indexByte l 0 ≥ 0 ↔ (0 : UInt8) ∈ l := by
  induction l with
  | nil => simp [Lib.indexByte]
  | cons x l ih =>
    simp only [Lib.indexByte, beq_iff_eq, List.mem_cons]
    by_cases h : x = 0
    · simp [h]
    · rw [if_neg h]
      have hge := Lib.indexByte_ge l 0
      by_cases h1 : Lib.indexByte l 0 = -1
      · rw [if_pos h1]
        have : ¬ ((0 : UInt8) ∈ l) := fun hm => by have := ih.2 hm; omega
        simp [this]; exact fun e => h e.symm
      · rw [if_neg h1]
        have : (0 : UInt8) ∈ l := ih.1 (by omega)
        simp [this]; omega

theorem splice_zero {cs vs : List AV} (h : vs.length ≤ cs.length) : splice cs 0 vs = vs ++ cs.drop vs.length := by
  unfold splice
  split
  · cases cs with
    | nil => simp at h
    | cons c cs => simp
  · simp

theorem flat_bs (l : List UInt8) : (bs l).flatMap AV.cells = bs l := by
  induction l with
  | nil => rfl
  | cons x l ih => show [u8 x] ++ (bs l).flatMap AV.cells = _; rw [ih]; rfl

theorem copy_str {e : ET} {S l : List (List AV)} {H : List HObj} {j : Nat} {s : List UInt8} {k : Key} (he : e.c = 1) (hj : j < l.length) (hk : l.getD j [] = bs k.b) (hs : s.length ≤ 16) :
    copyL e true (.row (.stk (S.length + j)) 0 16 16) (.s (.str s)) ⟨S ++ l, H⟩ = some (.i s.length, ⟨S ++ l.set j (bs (s ++ k.b.drop s.length)), H⟩) := by
  have e1 : l[j]? = some (bs k.b) := by rw [← hk]; simp [List.getD, hj]
  have hi : elemsL e (.s (.str s)) ⟨S ++ l, H⟩ = some (bs s) := by simp [elemsL, he, bs, u8]
  unfold copyL
  simp only [srcL, AV.isStr, if_true, hi]
  rw [List.take_of_length_le (by rw [bs_length]; exact hs), flat_bs, bs_length]
  simp only [writeCells, boxOf_stk, app_get, e1, Option.bind_some, mayHold, under_bs, bs_length, k.h, Nat.zero_add, hs, decide_true, Bool.and_self, if_true, Option.map_some, setBox_stk, app_set]
  rw [splice_zero (by rw [bs_length, bs_length, k.h]; exact hs), bs_length, bs_drop]
  simp only [bs, List.map_append]

theorem pad_drop {s : List UInt8} (hs : s.length ≤ 16) : s ++ key0.b.drop s.length = padB s := by
  unfold padB key0
  rw [List.take_of_length_le hs, List.drop_replicate]

def OfK (C : CallW) (f : FuncId) : Prop := ∀ (s : List UInt8) (S : List (List AV)) (H : List HObj) (K : AV → St → Prop), K (.tup [.agg (bs (keyOf s).1.b), .i (keyOf s).2]) ⟨S, H⟩ → C (.fn f) [.s (.str s)] ⟨S, H⟩ K

set_option maxHeartbeats 1000000 in
theorem key_Of_spec {C : CallW} (hC : LeC C C) (P : Program) {f : FuncId} (hf : IdxS C f) : ∀ (s : List UInt8) (S : List (List AV)) (H : List HObj) (K : AV → St → Prop), K (.tup [.agg (bs (keyOf s).1.b), .i (keyOf s).2]) ⟨S, H⟩ → runL C P (C_key_Of f) [.s (.str s)] ⟨S, H⟩ K := by
  intro s S H K hK
  have key0l : (bs key0.b).length = 16 := rfl
  by_cases h0 : s = []
  · have e : keyOf s = (key0, 1) := if_pos (.inl h0)
    rw [e] at hK
    simp only [C_key_Of, RUN_, u_C_key_Of_k1, u_C_key_Of_k2, u_C_key_Of_k3, u_C_key_Of_k4, FR_, Nat.reducePow, Int.reducePow, Nat.reduceAdd, Nat.reduceSub, Nat.reduceMul, Int.reduceToNat, Nat.reduceLeDiff, Nat.reduceEqDiff, Nat.reduceLT, Nat.reduceGT, Int.reduceGT, Int.reduceGE, Int.reduceLT, Int.reduceLE, Int.reduceEq, Int.reduceAdd, Int.reduceSub, Int.reduceNeg, reduceCtorEq, if_true, if_false, ite_true, ite_false, ne_eq, OPK_, KEY_, h0]
    exact hK
  · have h0' : ¬ (s.length = 0) := fun e => h0 (List.length_eq_zero_iff.1 e)
    by_cases h1 : 16 < s.length
    · have e : keyOf s = (key0, 1) := if_pos (.inr (.inl h1))
      rw [e] at hK
      have h1' : (16 : Int) < (s.length : Int) := by omega
      simp only [C_key_Of, RUN_, u_C_key_Of_k1, u_C_key_Of_k2, u_C_key_Of_k3, u_C_key_Of_k4, FR_, Nat.reducePow, Int.reducePow, Nat.reduceAdd, Nat.reduceSub, Nat.reduceMul, Int.reduceToNat, Nat.reduceLeDiff, Nat.reduceEqDiff, Nat.reduceLT, Nat.reduceGT, Int.reduceGT, Int.reduceGE, Int.reduceLT, Int.reduceLE, Int.reduceEq, Int.reduceAdd, Int.reduceSub, Int.reduceNeg, reduceCtorEq, if_true, if_false, ite_true, ite_false, ne_eq, OPK_, KEY_, h0, h1']
      exact hK
    · have h1' : ¬ ((16 : Int) < (s.length : Int)) := by omega
      simp only [C_key_Of, RUN_, u_C_key_Of_k1, u_C_key_Of_k2, u_C_key_Of_k3, u_C_key_Of_k4, FR_, Nat.reducePow, Int.reducePow, Nat.reduceAdd, Nat.reduceSub, Nat.reduceMul, Int.reduceToNat, Nat.reduceLeDiff, Nat.reduceEqDiff, Nat.reduceLT, Nat.reduceGT, Int.reduceGT, Int.reduceGE, Int.reduceLT, Int.reduceLE, Int.reduceEq, Int.reduceAdd, Int.reduceSub, Int.reduceNeg, reduceCtorEq, if_true, if_false, ite_true, ite_false, ne_eq, OPK_, KEY_, h0, h1']
      refine hf _ _ _ _ ?_
      by_cases h2 : (0 : UInt8) ∈ s
      · have e : keyOf s = (key0, 1) := if_pos (.inr (.inr h2))
        rw [e] at hK
        have h2' : (0 : Int) ≤ Lib.indexByte s 0 := idx_neg.2 h2
        simp only [RUN_, u_C_key_Of_k1, u_C_key_Of_k2, u_C_key_Of_k3, u_C_key_Of_k4, FR_, Nat.reducePow, Int.reducePow, Nat.reduceAdd, Nat.reduceSub, Nat.reduceMul, Int.reduceToNat, Nat.reduceLeDiff, Nat.reduceEqDiff, Nat.reduceLT, Nat.reduceGT, Int.reduceGT, Int.reduceGE, Int.reduceLT, Int.reduceLE, Int.reduceEq, Int.reduceAdd, Int.reduceSub, Int.reduceNeg, reduceCtorEq, if_true, if_false, ite_true, ite_false, ne_eq, OPK_, KEY_, h2']
        exact hK
      · have e : keyOf s = (padK s, 0) := if_neg (by rintro (h | h | h) <;> contradiction)
        rw [e] at hK
        have h2' : ¬ ((0 : Int) ≤ Lib.indexByte s 0) := fun h => h2 (idx_neg.1 h)
        have hcp := copy_str (e := ⟨1, false, 1, .s (.int .u8 0)⟩) (S := S) (l := [bs key0.b, bs key0.b]) (H := H) (j := 1) (s := s) (k := key0) rfl (by simp) rfl (by omega)
        rw [pad_drop (by omega)] at hcp
        have hk2 : (bs (padB s)).length = 16 := by rw [bs_length]; exact (padK s).h
        simp only [RUN_, u_C_key_Of_k1, u_C_key_Of_k2, u_C_key_Of_k3, u_C_key_Of_k4, FR_, Nat.reducePow, Int.reducePow, Nat.reduceAdd, Nat.reduceSub, Nat.reduceMul, Int.reduceToNat, Nat.reduceLeDiff, Nat.reduceEqDiff, Nat.reduceLT, Nat.reduceGT, Int.reduceGT, Int.reduceGE, Int.reduceLT, Int.reduceLE, Int.reduceEq, Int.reduceAdd, Int.reduceSub, Int.reduceNeg, reduceCtorEq, if_true, if_false, ite_true, ite_false, ne_eq, OPK_, KEY_, h2', hcp, hk2]
        exact hK
end Go.AM
