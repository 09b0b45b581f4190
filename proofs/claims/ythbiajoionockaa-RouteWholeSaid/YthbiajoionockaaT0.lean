import Derived.Test.YthbiajoionockaaSy
/-! Functions, lowered. -/
namespace Go.AM
open Go
set_option linter.unusedVariables false
set_option maxRecDepth 20000
def C_key_text_k1 : LCode := (.block 1 (.sq [⟨some 12, none, .mv false (.t 3)⟩,
          ⟨some 13, none, .bin .add .sc (.t 12) (.c (.int .i64 1))⟩,
          ⟨some 3, none, .mv true (.t 13)⟩]))
theorem u_C_key_text_k1 {C : CallW} {P : Program} {rd : Bool} {is : List Item} {fr : Fr} {σ : St} {K : KC} : runC C P rd C_key_text_k1 is fr σ K = runC C P rd (.block 1 (.sq [⟨some 12, none, .mv false (.t 3)⟩,
          ⟨some 13, none, .bin .add .sc (.t 12) (.c (.int .i64 1))⟩,
          ⟨some 3, none, .mv true (.t 13)⟩])) is fr σ K := (rfl)
def C_key_text_k2 : LCode := (.seq (.seq (.sq [⟨some 4, none, .mv false (.t 3)⟩,
        ⟨some 5, none, .bin .lss .sc (.t 4) (.c (.int .i64 16))⟩,
        ⟨some 6, none, .mv false (.t 5)⟩,
        ⟨some 7, some (6, true), .mv false (.t 3)⟩,
        ⟨some 8, some (6, true), .ixa (.arr 16 1) (.t 1) (.t 7)⟩,
        ⟨some 9, some (6, true), .load1 false (.t 8)⟩,
        ⟨some 10, some (6, true), .bin .neq .sc (.t 9) (.c (.int .u8 0))⟩,
        ⟨some 11, none, .pick (.t 6) (.t 10) (.c (.bool false))⟩]) (.cond (.t 11) .skip (.exit 0))) C_key_text_k1)
theorem u_C_key_text_k2 {C : CallW} {P : Program} {rd : Bool} {is : List Item} {fr : Fr} {σ : St} {K : KC} : runC C P rd C_key_text_k2 is fr σ K = runC C P rd (.seq (.seq (.sq [⟨some 4, none, .mv false (.t 3)⟩,
        ⟨some 5, none, .bin .lss .sc (.t 4) (.c (.int .i64 16))⟩,
        ⟨some 6, none, .mv false (.t 5)⟩,
        ⟨some 7, some (6, true), .mv false (.t 3)⟩,
        ⟨some 8, some (6, true), .ixa (.arr 16 1) (.t 1) (.t 7)⟩,
        ⟨some 9, some (6, true), .load1 false (.t 8)⟩,
        ⟨some 10, some (6, true), .bin .neq .sc (.t 9) (.c (.int .u8 0))⟩,
        ⟨some 11, none, .pick (.t 6) (.t 10) (.c (.bool false))⟩]) (.cond (.t 11) .skip (.exit 0))) C_key_text_k1) is fr σ K := (rfl)
def C_key_text_k3 : LCode := (.seq (.sq [⟨some 14, none, .mv false (.t 3)⟩,
    ⟨some 15, none, .slc (.arr 16 1) (.t 1) none (some (.t 14)) none⟩,
    ⟨some 16, none, .conv .ofBytes (.t 15)⟩,
    ⟨some 2, none, .mv true (.t 16)⟩]) .ret)
theorem u_C_key_text_k3 {C : CallW} {P : Program} {rd : Bool} {is : List Item} {fr : Fr} {σ : St} {K : KC} : runC C P rd C_key_text_k3 is fr σ K = runC C P rd (.seq (.sq [⟨some 14, none, .mv false (.t 3)⟩,
    ⟨some 15, none, .slc (.arr 16 1) (.t 1) none (some (.t 14)) none⟩,
    ⟨some 16, none, .conv .ofBytes (.t 15)⟩,
    ⟨some 2, none, .mv true (.t 16)⟩]) .ret) is fr σ K := (rfl)
def C_key_text_k4 : LCode := (.seq (.block 0 (.loop [false, true, false, true, false, false, false, false, false, false, false, false, false, false, false, false, false] C_key_text_k2)) C_key_text_k3)
theorem u_C_key_text_k4 {C : CallW} {P : Program} {rd : Bool} {is : List Item} {fr : Fr} {σ : St} {K : KC} : runC C P rd C_key_text_k4 is fr σ K = runC C P rd (.seq (.block 0 (.loop [false, true, false, true, false, false, false, false, false, false, false, false, false, false, false, false, false] C_key_text_k2)) C_key_text_k3) is fr σ K := (rfl)
--U C_key_text u_C_key_text_k1, u_C_key_text_k2, u_C_key_text_k3, u_C_key_text_k4
def C_key_text : LFn :=
  ⟨17, [.t 2], (.seq (.sq [⟨some 1, none, .box false false (.t 0)⟩,
    ⟨some 2, none, .mv true (.c (.str []))⟩]) (.seq (.sq [⟨some 3, none, .mv true (.c (.int .i64 0))⟩]) C_key_text_k4))⟩

def C_key_Of_k1 (f_strings_IndexByte : FuncId) : LCode := (.seq (.sq [⟨some 17, none, .loadA 16 (.t 4)⟩,
      ⟨none, none, .store 16 (.t 2) (.t 17)⟩,
      ⟨some 3, none, .mv true (.c (.int .i64 1))⟩]) .ret)
theorem u_C_key_Of_k1 {C : CallW} {P : Program} {rd : Bool} {is : List Item} {fr : Fr} {σ : St} {K : KC} (f_strings_IndexByte : FuncId) : runC C P rd (C_key_Of_k1 f_strings_IndexByte) is fr σ K = runC C P rd (.seq (.sq [⟨some 17, none, .loadA 16 (.t 4)⟩,
      ⟨none, none, .store 16 (.t 2) (.t 17)⟩,
      ⟨some 3, none, .mv true (.c (.int .i64 1))⟩]) .ret) is fr σ K := (rfl)
def C_key_Of_k2 (f_strings_IndexByte : FuncId) : LCode := (.seq (.sq [⟨some 21, none, .loadA 16 (.t 4)⟩,
    ⟨none, none, .store 16 (.t 2) (.t 21)⟩,
    ⟨some 3, none, .mv true (.c (.int .i64 0))⟩]) .ret)
theorem u_C_key_Of_k2 {C : CallW} {P : Program} {rd : Bool} {is : List Item} {fr : Fr} {σ : St} {K : KC} (f_strings_IndexByte : FuncId) : runC C P rd (C_key_Of_k2 f_strings_IndexByte) is fr σ K = runC C P rd (.seq (.sq [⟨some 21, none, .loadA 16 (.t 4)⟩,
    ⟨none, none, .store 16 (.t 2) (.t 21)⟩,
    ⟨some 3, none, .mv true (.c (.int .i64 0))⟩]) .ret) is fr σ K := (rfl)
def C_key_Of_k3 (f_strings_IndexByte : FuncId) : LCode := (.seq (.sq [⟨some 18, none, .slc (.arr 16 1) (.t 4) none none none⟩,
    ⟨some 19, none, .mv false (.t 0)⟩,
    ⟨some 20, none, .cpy ⟨1, false, 1, (.s (.int .u8 0))⟩ true (.t 18) (.t 19)⟩]) (C_key_Of_k2 f_strings_IndexByte))
theorem u_C_key_Of_k3 {C : CallW} {P : Program} {rd : Bool} {is : List Item} {fr : Fr} {σ : St} {K : KC} (f_strings_IndexByte : FuncId) : runC C P rd (C_key_Of_k3 f_strings_IndexByte) is fr σ K = runC C P rd (.seq (.sq [⟨some 18, none, .slc (.arr 16 1) (.t 4) none none none⟩,
    ⟨some 19, none, .mv false (.t 0)⟩,
    ⟨some 20, none, .cpy ⟨1, false, 1, (.s (.int .u8 0))⟩ true (.t 18) (.t 19)⟩]) (C_key_Of_k2 f_strings_IndexByte)) is fr σ K := (rfl)
def C_key_Of_k4 (f_strings_IndexByte : FuncId) : LCode := (.seq (.seq (.sq [⟨some 5, none, .mv false (.t 0)⟩,
    ⟨some 6, none, .bin .eql .sc (.t 5) (.c (.str []))⟩,
    ⟨some 7, none, .mv false (.t 6)⟩,
    ⟨some 8, some (7, false), .mv false (.t 0)⟩,
    ⟨some 9, some (7, false), .len .str (.t 8)⟩,
    ⟨some 10, some (7, false), .bin .gtr .sc (.t 9) (.c (.int .i64 16))⟩,
    ⟨some 11, none, .pick (.t 7) (.c (.bool true)) (.t 10)⟩,
    ⟨some 12, none, .mv false (.t 11)⟩,
    ⟨some 13, some (12, false), .mv false (.t 0)⟩,
    ⟨some 14, some (12, false), .call (.f f_strings_IndexByte) [(.t 13), (.c (.int .u8 0))]⟩,
    ⟨some 15, some (12, false), .bin .geq .sc (.t 14) (.c (.int .i64 0))⟩,
    ⟨some 16, none, .pick (.t 12) (.c (.bool true)) (.t 15)⟩]) (.cond (.t 16) (C_key_Of_k1 f_strings_IndexByte) .skip)) (C_key_Of_k3 f_strings_IndexByte))
theorem u_C_key_Of_k4 {C : CallW} {P : Program} {rd : Bool} {is : List Item} {fr : Fr} {σ : St} {K : KC} (f_strings_IndexByte : FuncId) : runC C P rd (C_key_Of_k4 f_strings_IndexByte) is fr σ K = runC C P rd (.seq (.seq (.sq [⟨some 5, none, .mv false (.t 0)⟩,
    ⟨some 6, none, .bin .eql .sc (.t 5) (.c (.str []))⟩,
    ⟨some 7, none, .mv false (.t 6)⟩,
    ⟨some 8, some (7, false), .mv false (.t 0)⟩,
    ⟨some 9, some (7, false), .len .str (.t 8)⟩,
    ⟨some 10, some (7, false), .bin .gtr .sc (.t 9) (.c (.int .i64 16))⟩,
    ⟨some 11, none, .pick (.t 7) (.c (.bool true)) (.t 10)⟩,
    ⟨some 12, none, .mv false (.t 11)⟩,
    ⟨some 13, some (12, false), .mv false (.t 0)⟩,
    ⟨some 14, some (12, false), .call (.f f_strings_IndexByte) [(.t 13), (.c (.int .u8 0))]⟩,
    ⟨some 15, some (12, false), .bin .geq .sc (.t 14) (.c (.int .i64 0))⟩,
    ⟨some 16, none, .pick (.t 12) (.c (.bool true)) (.t 15)⟩]) (.cond (.t 16) (C_key_Of_k1 f_strings_IndexByte) .skip)) (C_key_Of_k3 f_strings_IndexByte)) is fr σ K := (rfl)
--U C_key_Of u_C_key_Of_k1, u_C_key_Of_k2, u_C_key_Of_k3, u_C_key_Of_k4
def C_key_Of (f_strings_IndexByte : FuncId) : LFn :=
  ⟨22, [.many 2 16, .t 3], (.seq (.sq [⟨some 2, none, .alloc false zk⟩,
    ⟨some 3, none, .mv true (.c (.int .i64 0))⟩]) (.seq (.sq [⟨some 4, none, .alloc false zk⟩]) (C_key_Of_k4 f_strings_IndexByte)))⟩

def C_key_Good_k1 (f_key_text f_key_Of : FuncId) : LCode := (.seq (.sq [⟨some 11, none, .mv false (.t 4)⟩,
    ⟨some 12, none, .bin .eql .sc (.t 11) (.c (.int .i64 0))⟩,
    ⟨some 13, none, .mv false (.t 12)⟩,
    ⟨some 14, some (13, true), .loadA 16 (.t 3)⟩,
    ⟨some 15, some (13, true), .loadA 16 (.t 1)⟩,
    ⟨some 16, some (13, true), .bin .eql (.leaf lk) (.t 14) (.t 15)⟩,
    ⟨some 17, none, .pick (.t 13) (.t 16) (.c (.bool false))⟩,
    ⟨some 2, none, .mv true (.t 17)⟩]) .ret)
theorem u_C_key_Good_k1 {C : CallW} {P : Program} {rd : Bool} {is : List Item} {fr : Fr} {σ : St} {K : KC} (f_key_text f_key_Of : FuncId) : runC C P rd (C_key_Good_k1 f_key_text f_key_Of) is fr σ K = runC C P rd (.seq (.sq [⟨some 11, none, .mv false (.t 4)⟩,
    ⟨some 12, none, .bin .eql .sc (.t 11) (.c (.int .i64 0))⟩,
    ⟨some 13, none, .mv false (.t 12)⟩,
    ⟨some 14, some (13, true), .loadA 16 (.t 3)⟩,
    ⟨some 15, some (13, true), .loadA 16 (.t 1)⟩,
    ⟨some 16, some (13, true), .bin .eql (.leaf lk) (.t 14) (.t 15)⟩,
    ⟨some 17, none, .pick (.t 13) (.t 16) (.c (.bool false))⟩,
    ⟨some 2, none, .mv true (.t 17)⟩]) .ret) is fr σ K := (rfl)
def C_key_Good_k2 (f_key_text f_key_Of : FuncId) : LCode := (.seq (.sq [⟨some 6, none, .loadA 16 (.t 1)⟩,
    ⟨some 7, none, .call (.f f_key_text) [(.t 6)]⟩,
    ⟨some 8, none, .call (.f f_key_Of) [(.t 7)]⟩,
    ⟨some 5, none, .mv false (.t 8)⟩,
    ⟨some 9, none, .ext (.t 5) 0⟩,
    ⟨some 10, none, .ext (.t 5) 1⟩,
    ⟨some 3, none, .alloc false zk⟩,
    ⟨none, none, .store 16 (.t 3) (.t 9)⟩,
    ⟨some 4, none, .mv true (.t 10)⟩]) (C_key_Good_k1 f_key_text f_key_Of))
theorem u_C_key_Good_k2 {C : CallW} {P : Program} {rd : Bool} {is : List Item} {fr : Fr} {σ : St} {K : KC} (f_key_text f_key_Of : FuncId) : runC C P rd (C_key_Good_k2 f_key_text f_key_Of) is fr σ K = runC C P rd (.seq (.sq [⟨some 6, none, .loadA 16 (.t 1)⟩,
    ⟨some 7, none, .call (.f f_key_text) [(.t 6)]⟩,
    ⟨some 8, none, .call (.f f_key_Of) [(.t 7)]⟩,
    ⟨some 5, none, .mv false (.t 8)⟩,
    ⟨some 9, none, .ext (.t 5) 0⟩,
    ⟨some 10, none, .ext (.t 5) 1⟩,
    ⟨some 3, none, .alloc false zk⟩,
    ⟨none, none, .store 16 (.t 3) (.t 9)⟩,
    ⟨some 4, none, .mv true (.t 10)⟩]) (C_key_Good_k1 f_key_text f_key_Of)) is fr σ K := (rfl)
--U C_key_Good u_C_key_Good_k1, u_C_key_Good_k2
def C_key_Good (f_key_text f_key_Of : FuncId) : LFn :=
  ⟨18, [.t 2], (.seq (.sq [⟨some 1, none, .box false false (.t 0)⟩,
    ⟨some 2, none, .mv true (.c (.bool false))⟩]) (C_key_Good_k2 f_key_text f_key_Of))⟩

def C_key_Cmp_k1 (f_bytes_Compare : FuncId) : LCode := (.seq (.tree (.rd ⟨some 5, none, .slc (.arr 16 1) (.t 2) none none none⟩ 0 false (.rd ⟨some 6, none, .slc (.arr 16 1) (.t 3) none none none⟩ 1 false (.mv ⟨some 7, none, .call (.f f_bytes_Compare) [(.t 5), (.t 6)]⟩ [0, 1] (.mv ⟨some 4, none, .mv true (.t 7)⟩ [0, 1, 2] .done .stop) .stop)))) .ret)
theorem u_C_key_Cmp_k1 {C : CallW} {P : Program} {rd : Bool} {is : List Item} {fr : Fr} {σ : St} {K : KC} (f_bytes_Compare : FuncId) : runC C P rd (C_key_Cmp_k1 f_bytes_Compare) is fr σ K = runC C P rd (.seq (.tree (.rd ⟨some 5, none, .slc (.arr 16 1) (.t 2) none none none⟩ 0 false (.rd ⟨some 6, none, .slc (.arr 16 1) (.t 3) none none none⟩ 1 false (.mv ⟨some 7, none, .call (.f f_bytes_Compare) [(.t 5), (.t 6)]⟩ [0, 1] (.mv ⟨some 4, none, .mv true (.t 7)⟩ [0, 1, 2] .done .stop) .stop)))) .ret) is fr σ K := (rfl)
--U C_key_Cmp u_C_key_Cmp_k1
def C_key_Cmp (f_bytes_Compare : FuncId) : LFn :=
  ⟨8, [.t 4], (.seq (.sq [⟨some 2, none, .box false false (.t 0)⟩,
    ⟨some 3, none, .box false false (.t 1)⟩,
    ⟨some 4, none, .mv true (.c (.int .i64 0))⟩]) (C_key_Cmp_k1 f_bytes_Compare))⟩

def C_bytes_Compare_k1 (f_internal_bytealg_Compare : FuncId) : LCode := (.seq (.sq [⟨some 5, none, .mv true (.t 0)⟩,
    ⟨some 6, none, .mv true (.t 1)⟩,
    ⟨some 7, none, .call (.f f_internal_bytealg_Compare) [(.t 5), (.t 6)]⟩,
    ⟨some 4, none, .mv true (.t 7)⟩]) .ret)
theorem u_C_bytes_Compare_k1 {C : CallW} {P : Program} {rd : Bool} {is : List Item} {fr : Fr} {σ : St} {K : KC} (f_internal_bytealg_Compare : FuncId) : runC C P rd (C_bytes_Compare_k1 f_internal_bytealg_Compare) is fr σ K = runC C P rd (.seq (.sq [⟨some 5, none, .mv true (.t 0)⟩,
    ⟨some 6, none, .mv true (.t 1)⟩,
    ⟨some 7, none, .call (.f f_internal_bytealg_Compare) [(.t 5), (.t 6)]⟩,
    ⟨some 4, none, .mv true (.t 7)⟩]) .ret) is fr σ K := (rfl)
--U C_bytes_Compare u_C_bytes_Compare_k1
def C_bytes_Compare (f_internal_bytealg_Compare : FuncId) : LFn :=
  ⟨8, [.t 4], (.seq (.sq [⟨some 4, none, .mv true (.c (.int .i64 0))⟩]) (C_bytes_Compare_k1 f_internal_bytealg_Compare))⟩

def C_strings_IndexByte_k1 (f_internal_stringslite_IndexByte : FuncId) : LCode := (.seq (.sq [⟨some 5, none, .mv false (.t 0)⟩,
    ⟨some 6, none, .mv false (.t 1)⟩,
    ⟨some 7, none, .call (.f f_internal_stringslite_IndexByte) [(.t 5), (.t 6)]⟩,
    ⟨some 4, none, .mv true (.t 7)⟩]) .ret)
theorem u_C_strings_IndexByte_k1 {C : CallW} {P : Program} {rd : Bool} {is : List Item} {fr : Fr} {σ : St} {K : KC} (f_internal_stringslite_IndexByte : FuncId) : runC C P rd (C_strings_IndexByte_k1 f_internal_stringslite_IndexByte) is fr σ K = runC C P rd (.seq (.sq [⟨some 5, none, .mv false (.t 0)⟩,
    ⟨some 6, none, .mv false (.t 1)⟩,
    ⟨some 7, none, .call (.f f_internal_stringslite_IndexByte) [(.t 5), (.t 6)]⟩,
    ⟨some 4, none, .mv true (.t 7)⟩]) .ret) is fr σ K := (rfl)
--U C_strings_IndexByte u_C_strings_IndexByte_k1
def C_strings_IndexByte (f_internal_stringslite_IndexByte : FuncId) : LFn :=
  ⟨8, [.t 4], (.seq (.sq [⟨some 4, none, .mv true (.c (.int .i64 0))⟩]) (C_strings_IndexByte_k1 f_internal_stringslite_IndexByte))⟩

def C_internal_stringslite_IndexByte_k1 (f_internal_bytealg_IndexByteString : FuncId) : LCode := (.seq (.sq [⟨some 5, none, .mv false (.t 0)⟩,
    ⟨some 6, none, .mv false (.t 1)⟩,
    ⟨some 7, none, .call (.f f_internal_bytealg_IndexByteString) [(.t 5), (.t 6)]⟩,
    ⟨some 4, none, .mv true (.t 7)⟩]) .ret)
theorem u_C_internal_stringslite_IndexByte_k1 {C : CallW} {P : Program} {rd : Bool} {is : List Item} {fr : Fr} {σ : St} {K : KC} (f_internal_bytealg_IndexByteString : FuncId) : runC C P rd (C_internal_stringslite_IndexByte_k1 f_internal_bytealg_IndexByteString) is fr σ K = runC C P rd (.seq (.sq [⟨some 5, none, .mv false (.t 0)⟩,
    ⟨some 6, none, .mv false (.t 1)⟩,
    ⟨some 7, none, .call (.f f_internal_bytealg_IndexByteString) [(.t 5), (.t 6)]⟩,
    ⟨some 4, none, .mv true (.t 7)⟩]) .ret) is fr σ K := (rfl)
--U C_internal_stringslite_IndexByte u_C_internal_stringslite_IndexByte_k1
def C_internal_stringslite_IndexByte (f_internal_bytealg_IndexByteString : FuncId) : LFn :=
  ⟨8, [.t 4], (.seq (.sq [⟨some 4, none, .mv true (.c (.int .i64 0))⟩]) (C_internal_stringslite_IndexByte_k1 f_internal_bytealg_IndexByteString))⟩

def C_hourglassref10_Of_k1 : LCode := (.seq (.sq [⟨some 15, none, .loadA 16 (.t 4)⟩,
      ⟨none, none, .store 16 (.t 2) (.t 15)⟩,
      ⟨some 3, none, .mv true (.c (.bool false))⟩]) .ret)
theorem u_C_hourglassref10_Of_k1 {C : CallW} {P : Program} {rd : Bool} {is : List Item} {fr : Fr} {σ : St} {K : KC} : runC C P rd C_hourglassref10_Of_k1 is fr σ K = runC C P rd (.seq (.sq [⟨some 15, none, .loadA 16 (.t 4)⟩,
      ⟨none, none, .store 16 (.t 2) (.t 15)⟩,
      ⟨some 3, none, .mv true (.c (.bool false))⟩]) .ret) is fr σ K := (rfl)
def C_hourglassref10_Of_k2 : LCode := (.seq (.sq [⟨some 26, none, .build zk []⟩,
            ⟨none, none, .store 16 (.t 2) (.t 26)⟩,
            ⟨some 3, none, .mv true (.c (.bool false))⟩]) .ret)
theorem u_C_hourglassref10_Of_k2 {C : CallW} {P : Program} {rd : Bool} {is : List Item} {fr : Fr} {σ : St} {K : KC} : runC C P rd C_hourglassref10_Of_k2 is fr σ K = runC C P rd (.seq (.sq [⟨some 26, none, .build zk []⟩,
            ⟨none, none, .store 16 (.t 2) (.t 26)⟩,
            ⟨some 3, none, .mv true (.c (.bool false))⟩]) .ret) is fr σ K := (rfl)
def C_hourglassref10_Of_k3 : LCode := (.sq [⟨some 27, none, .mv false (.t 5)⟩,
          ⟨some 28, none, .mv false (.t 0)⟩,
          ⟨some 29, none, .mv false (.t 5)⟩,
          ⟨some 30, none, .ixs (.t 28) (.t 29)⟩,
          ⟨some 31, none, .ixa (.arr 16 1) (.t 4) (.t 27)⟩,
          ⟨none, none, .store 1 (.t 31) (.t 30)⟩])
theorem u_C_hourglassref10_Of_k3 {C : CallW} {P : Program} {rd : Bool} {is : List Item} {fr : Fr} {σ : St} {K : KC} : runC C P rd C_hourglassref10_Of_k3 is fr σ K = runC C P rd (.sq [⟨some 27, none, .mv false (.t 5)⟩,
          ⟨some 28, none, .mv false (.t 0)⟩,
          ⟨some 29, none, .mv false (.t 5)⟩,
          ⟨some 30, none, .ixs (.t 28) (.t 29)⟩,
          ⟨some 31, none, .ixa (.arr 16 1) (.t 4) (.t 27)⟩,
          ⟨none, none, .store 1 (.t 31) (.t 30)⟩]) is fr σ K := (rfl)
def C_hourglassref10_Of_k4 : LCode := (.sq [⟨some 20, none, .mv false (.t 5)⟩,
        ⟨some 21, none, .bin .add .sc (.t 20) (.c (.int .i64 1))⟩,
        ⟨some 5, none, .mv true (.t 21)⟩])
theorem u_C_hourglassref10_Of_k4 {C : CallW} {P : Program} {rd : Bool} {is : List Item} {fr : Fr} {σ : St} {K : KC} : runC C P rd C_hourglassref10_Of_k4 is fr σ K = runC C P rd (.sq [⟨some 20, none, .mv false (.t 5)⟩,
        ⟨some 21, none, .bin .add .sc (.t 20) (.c (.int .i64 1))⟩,
        ⟨some 5, none, .mv true (.t 21)⟩]) is fr σ K := (rfl)
def C_hourglassref10_Of_k5 : LCode := (.seq (.block 1 (.seq (.seq (.sq [⟨some 22, none, .mv false (.t 0)⟩,
          ⟨some 23, none, .mv false (.t 5)⟩,
          ⟨some 24, none, .ixs (.t 22) (.t 23)⟩,
          ⟨some 25, none, .bin .eql .sc (.t 24) (.c (.int .u8 0))⟩]) (.cond (.t 25) C_hourglassref10_Of_k2 .skip)) C_hourglassref10_Of_k3)) C_hourglassref10_Of_k4)
theorem u_C_hourglassref10_Of_k5 {C : CallW} {P : Program} {rd : Bool} {is : List Item} {fr : Fr} {σ : St} {K : KC} : runC C P rd C_hourglassref10_Of_k5 is fr σ K = runC C P rd (.seq (.block 1 (.seq (.seq (.sq [⟨some 22, none, .mv false (.t 0)⟩,
          ⟨some 23, none, .mv false (.t 5)⟩,
          ⟨some 24, none, .ixs (.t 22) (.t 23)⟩,
          ⟨some 25, none, .bin .eql .sc (.t 24) (.c (.int .u8 0))⟩]) (.cond (.t 25) C_hourglassref10_Of_k2 .skip)) C_hourglassref10_Of_k3)) C_hourglassref10_Of_k4) is fr σ K := (rfl)
def C_hourglassref10_Of_k6 : LCode := (.seq (.seq (.sq [⟨some 16, none, .mv false (.t 5)⟩,
        ⟨some 17, none, .mv false (.t 0)⟩,
        ⟨some 18, none, .len .str (.t 17)⟩,
        ⟨some 19, none, .bin .lss .sc (.t 16) (.t 18)⟩]) (.cond (.t 19) .skip (.exit 0))) C_hourglassref10_Of_k5)
theorem u_C_hourglassref10_Of_k6 {C : CallW} {P : Program} {rd : Bool} {is : List Item} {fr : Fr} {σ : St} {K : KC} : runC C P rd C_hourglassref10_Of_k6 is fr σ K = runC C P rd (.seq (.seq (.sq [⟨some 16, none, .mv false (.t 5)⟩,
        ⟨some 17, none, .mv false (.t 0)⟩,
        ⟨some 18, none, .len .str (.t 17)⟩,
        ⟨some 19, none, .bin .lss .sc (.t 16) (.t 18)⟩]) (.cond (.t 19) .skip (.exit 0))) C_hourglassref10_Of_k5) is fr σ K := (rfl)
def C_hourglassref10_Of_k7 : LCode := (.block 0 (.loop [true, false, true, false, true, true, false, false, false, false, false, false, false, false, false, false, false, false, false, false, false, false, false, false, false, false, false, false, false, false, false, false, false] C_hourglassref10_Of_k6))
theorem u_C_hourglassref10_Of_k7 {C : CallW} {P : Program} {rd : Bool} {is : List Item} {fr : Fr} {σ : St} {K : KC} : runC C P rd C_hourglassref10_Of_k7 is fr σ K = runC C P rd (.block 0 (.loop [true, false, true, false, true, true, false, false, false, false, false, false, false, false, false, false, false, false, false, false, false, false, false, false, false, false, false, false, false, false, false, false, false] C_hourglassref10_Of_k6)) is fr σ K := (rfl)
def C_hourglassref10_Of_k8 : LCode := (.seq (.sq [⟨some 32, none, .loadA 16 (.t 4)⟩,
    ⟨none, none, .store 16 (.t 2) (.t 32)⟩,
    ⟨some 3, none, .mv true (.c (.bool true))⟩]) .ret)
theorem u_C_hourglassref10_Of_k8 {C : CallW} {P : Program} {rd : Bool} {is : List Item} {fr : Fr} {σ : St} {K : KC} : runC C P rd C_hourglassref10_Of_k8 is fr σ K = runC C P rd (.seq (.sq [⟨some 32, none, .loadA 16 (.t 4)⟩,
    ⟨none, none, .store 16 (.t 2) (.t 32)⟩,
    ⟨some 3, none, .mv true (.c (.bool true))⟩]) .ret) is fr σ K := (rfl)
def C_hourglassref10_Of_k9 : LCode := (.seq (.seq (.sq [⟨some 7, none, .mv false (.t 0)⟩,
    ⟨some 8, none, .len .str (.t 7)⟩,
    ⟨some 9, none, .bin .lss .sc (.t 8) (.c (.int .i64 1))⟩,
    ⟨some 10, none, .mv false (.t 9)⟩,
    ⟨some 11, some (10, false), .mv false (.t 0)⟩,
    ⟨some 12, some (10, false), .len .str (.t 11)⟩,
    ⟨some 13, some (10, false), .bin .gtr .sc (.t 12) (.c (.int .i64 16))⟩,
    ⟨some 14, none, .pick (.t 10) (.c (.bool true)) (.t 13)⟩]) (.cond (.t 14) C_hourglassref10_Of_k1 .skip)) (.seq (.seq (.sq [⟨some 5, none, .mv true (.c (.int .i64 0))⟩]) C_hourglassref10_Of_k7) C_hourglassref10_Of_k8))
theorem u_C_hourglassref10_Of_k9 {C : CallW} {P : Program} {rd : Bool} {is : List Item} {fr : Fr} {σ : St} {K : KC} : runC C P rd C_hourglassref10_Of_k9 is fr σ K = runC C P rd (.seq (.seq (.sq [⟨some 7, none, .mv false (.t 0)⟩,
    ⟨some 8, none, .len .str (.t 7)⟩,
    ⟨some 9, none, .bin .lss .sc (.t 8) (.c (.int .i64 1))⟩,
    ⟨some 10, none, .mv false (.t 9)⟩,
    ⟨some 11, some (10, false), .mv false (.t 0)⟩,
    ⟨some 12, some (10, false), .len .str (.t 11)⟩,
    ⟨some 13, some (10, false), .bin .gtr .sc (.t 12) (.c (.int .i64 16))⟩,
    ⟨some 14, none, .pick (.t 10) (.c (.bool true)) (.t 13)⟩]) (.cond (.t 14) C_hourglassref10_Of_k1 .skip)) (.seq (.seq (.sq [⟨some 5, none, .mv true (.c (.int .i64 0))⟩]) C_hourglassref10_Of_k7) C_hourglassref10_Of_k8)) is fr σ K := (rfl)
def C_hourglassref10_Of_k10 : LCode := (.seq (.sq [⟨some 6, none, .build zk []⟩,
    ⟨some 4, none, .alloc false zk⟩,
    ⟨none, none, .store 16 (.t 4) (.t 6)⟩]) C_hourglassref10_Of_k9)
theorem u_C_hourglassref10_Of_k10 {C : CallW} {P : Program} {rd : Bool} {is : List Item} {fr : Fr} {σ : St} {K : KC} : runC C P rd C_hourglassref10_Of_k10 is fr σ K = runC C P rd (.seq (.sq [⟨some 6, none, .build zk []⟩,
    ⟨some 4, none, .alloc false zk⟩,
    ⟨none, none, .store 16 (.t 4) (.t 6)⟩]) C_hourglassref10_Of_k9) is fr σ K := (rfl)
--U C_hourglassref10_Of u_C_hourglassref10_Of_k1, u_C_hourglassref10_Of_k2, u_C_hourglassref10_Of_k3, u_C_hourglassref10_Of_k4, u_C_hourglassref10_Of_k5, u_C_hourglassref10_Of_k6, u_C_hourglassref10_Of_k7, u_C_hourglassref10_Of_k8, u_C_hourglassref10_Of_k9, u_C_hourglassref10_Of_k10
def C_hourglassref10_Of : LFn :=
  ⟨33, [.many 2 16, .t 3], (.seq (.sq [⟨some 2, none, .alloc false zk⟩,
    ⟨some 3, none, .mv true (.c (.bool false))⟩]) C_hourglassref10_Of_k10)⟩

def C_hourglassref10_Good_k1 : LCode := (.seq (.sq [⟨some 13, none, .mv false (.t 3)⟩]) (.cond (.t 13) (.seq (.sq [⟨some 2, none, .mv true (.c (.bool false))⟩]) .ret) .skip))
theorem u_C_hourglassref10_Good_k1 {C : CallW} {P : Program} {rd : Bool} {is : List Item} {fr : Fr} {σ : St} {K : KC} : runC C P rd C_hourglassref10_Good_k1 is fr σ K = runC C P rd (.seq (.sq [⟨some 13, none, .mv false (.t 3)⟩]) (.cond (.t 13) (.seq (.sq [⟨some 2, none, .mv true (.c (.bool false))⟩]) .ret) .skip)) is fr σ K := (rfl)
def C_hourglassref10_Good_k2 : LCode := (.sq [⟨some 7, none, .mv false (.t 4)⟩,
        ⟨some 8, none, .bin .add .sc (.t 7) (.c (.int .i64 1))⟩,
        ⟨some 4, none, .mv true (.t 8)⟩])
theorem u_C_hourglassref10_Good_k2 {C : CallW} {P : Program} {rd : Bool} {is : List Item} {fr : Fr} {σ : St} {K : KC} : runC C P rd C_hourglassref10_Good_k2 is fr σ K = runC C P rd (.sq [⟨some 7, none, .mv false (.t 4)⟩,
        ⟨some 8, none, .bin .add .sc (.t 7) (.c (.int .i64 1))⟩,
        ⟨some 4, none, .mv true (.t 8)⟩]) is fr σ K := (rfl)
def C_hourglassref10_Good_k3 : LCode := (.seq (.block 1 (.seq (.sq [⟨some 9, none, .mv false (.t 4)⟩,
          ⟨some 10, none, .ixa (.arr 16 1) (.t 1) (.t 9)⟩,
          ⟨some 11, none, .load1 false (.t 10)⟩,
          ⟨some 12, none, .bin .eql .sc (.t 11) (.c (.int .u8 0))⟩]) (.cond (.t 12) (.sq [⟨some 3, none, .mv true (.c (.bool true))⟩]) C_hourglassref10_Good_k1))) C_hourglassref10_Good_k2)
theorem u_C_hourglassref10_Good_k3 {C : CallW} {P : Program} {rd : Bool} {is : List Item} {fr : Fr} {σ : St} {K : KC} : runC C P rd C_hourglassref10_Good_k3 is fr σ K = runC C P rd (.seq (.block 1 (.seq (.sq [⟨some 9, none, .mv false (.t 4)⟩,
          ⟨some 10, none, .ixa (.arr 16 1) (.t 1) (.t 9)⟩,
          ⟨some 11, none, .load1 false (.t 10)⟩,
          ⟨some 12, none, .bin .eql .sc (.t 11) (.c (.int .u8 0))⟩]) (.cond (.t 12) (.sq [⟨some 3, none, .mv true (.c (.bool true))⟩]) C_hourglassref10_Good_k1))) C_hourglassref10_Good_k2) is fr σ K := (rfl)
def C_hourglassref10_Good_k4 : LCode := (.seq (.seq (.sq [⟨some 5, none, .mv false (.t 4)⟩,
        ⟨some 6, none, .bin .lss .sc (.t 5) (.c (.int .i64 16))⟩]) (.cond (.t 6) .skip (.exit 0))) C_hourglassref10_Good_k3)
theorem u_C_hourglassref10_Good_k4 {C : CallW} {P : Program} {rd : Bool} {is : List Item} {fr : Fr} {σ : St} {K : KC} : runC C P rd C_hourglassref10_Good_k4 is fr σ K = runC C P rd (.seq (.seq (.sq [⟨some 5, none, .mv false (.t 4)⟩,
        ⟨some 6, none, .bin .lss .sc (.t 5) (.c (.int .i64 16))⟩]) (.cond (.t 6) .skip (.exit 0))) C_hourglassref10_Good_k3) is fr σ K := (rfl)
def C_hourglassref10_Good_k5 : LCode := (.block 0 (.loop [false, true, false, true, true, false, false, false, false, false, false, false, false, false, false, false, false] C_hourglassref10_Good_k4))
theorem u_C_hourglassref10_Good_k5 {C : CallW} {P : Program} {rd : Bool} {is : List Item} {fr : Fr} {σ : St} {K : KC} : runC C P rd C_hourglassref10_Good_k5 is fr σ K = runC C P rd (.block 0 (.loop [false, true, false, true, true, false, false, false, false, false, false, false, false, false, false, false, false] C_hourglassref10_Good_k4)) is fr σ K := (rfl)
def C_hourglassref10_Good_k6 : LCode := (.seq (.sq [⟨some 14, none, .ixa (.arr 16 1) (.t 1) (.c (.int .i64 0))⟩,
    ⟨some 15, none, .load1 false (.t 14)⟩,
    ⟨some 16, none, .bin .neq .sc (.t 15) (.c (.int .u8 0))⟩,
    ⟨some 2, none, .mv true (.t 16)⟩]) .ret)
theorem u_C_hourglassref10_Good_k6 {C : CallW} {P : Program} {rd : Bool} {is : List Item} {fr : Fr} {σ : St} {K : KC} : runC C P rd C_hourglassref10_Good_k6 is fr σ K = runC C P rd (.seq (.sq [⟨some 14, none, .ixa (.arr 16 1) (.t 1) (.c (.int .i64 0))⟩,
    ⟨some 15, none, .load1 false (.t 14)⟩,
    ⟨some 16, none, .bin .neq .sc (.t 15) (.c (.int .u8 0))⟩,
    ⟨some 2, none, .mv true (.t 16)⟩]) .ret) is fr σ K := (rfl)
def C_hourglassref10_Good_k7 : LCode := (.seq (.sq [⟨some 3, none, .mv true (.c (.bool false))⟩]) (.seq (.seq (.sq [⟨some 4, none, .mv true (.c (.int .i64 0))⟩]) C_hourglassref10_Good_k5) C_hourglassref10_Good_k6))
theorem u_C_hourglassref10_Good_k7 {C : CallW} {P : Program} {rd : Bool} {is : List Item} {fr : Fr} {σ : St} {K : KC} : runC C P rd C_hourglassref10_Good_k7 is fr σ K = runC C P rd (.seq (.sq [⟨some 3, none, .mv true (.c (.bool false))⟩]) (.seq (.seq (.sq [⟨some 4, none, .mv true (.c (.int .i64 0))⟩]) C_hourglassref10_Good_k5) C_hourglassref10_Good_k6)) is fr σ K := (rfl)
--U C_hourglassref10_Good u_C_hourglassref10_Good_k1, u_C_hourglassref10_Good_k2, u_C_hourglassref10_Good_k3, u_C_hourglassref10_Good_k4, u_C_hourglassref10_Good_k5, u_C_hourglassref10_Good_k6, u_C_hourglassref10_Good_k7
def C_hourglassref10_Good : LFn :=
  ⟨17, [.t 2], (.seq (.sq [⟨some 1, none, .box false false (.t 0)⟩,
    ⟨some 2, none, .mv true (.c (.bool false))⟩]) C_hourglassref10_Good_k7)⟩

def C_hourglassref10_Cmp_k1 : LCode := (.seq (.tree (.rd ⟨some 17, none, .mv false (.t 5)⟩ 0 false (.rd ⟨some 18, none, .ixa (.arr 16 1) (.t 2) (.t 17)⟩ 1 false (.rd ⟨some 19, none, .load1 false (.t 18)⟩ 2 false (.rd ⟨some 20, none, .mv false (.t 5)⟩ 3 false (.rd ⟨some 21, none, .ixa (.arr 16 1) (.t 3) (.t 20)⟩ 4 false (.rd ⟨some 22, none, .load1 false (.t 21)⟩ 5 false (.rd ⟨some 23, none, .bin .gtr .sc (.t 19) (.t 22)⟩ 6 false .done)))))))) (.cond (.t 23) (.seq (.sq [⟨some 4, none, .mv true (.c (.int .i64 1))⟩]) .ret) .skip))
theorem u_C_hourglassref10_Cmp_k1 {C : CallW} {P : Program} {rd : Bool} {is : List Item} {fr : Fr} {σ : St} {K : KC} : runC C P rd C_hourglassref10_Cmp_k1 is fr σ K = runC C P rd (.seq (.tree (.rd ⟨some 17, none, .mv false (.t 5)⟩ 0 false (.rd ⟨some 18, none, .ixa (.arr 16 1) (.t 2) (.t 17)⟩ 1 false (.rd ⟨some 19, none, .load1 false (.t 18)⟩ 2 false (.rd ⟨some 20, none, .mv false (.t 5)⟩ 3 false (.rd ⟨some 21, none, .ixa (.arr 16 1) (.t 3) (.t 20)⟩ 4 false (.rd ⟨some 22, none, .load1 false (.t 21)⟩ 5 false (.rd ⟨some 23, none, .bin .gtr .sc (.t 19) (.t 22)⟩ 6 false .done)))))))) (.cond (.t 23) (.seq (.sq [⟨some 4, none, .mv true (.c (.int .i64 1))⟩]) .ret) .skip)) is fr σ K := (rfl)
def C_hourglassref10_Cmp_k2 : LCode := (.sq [⟨some 8, none, .mv false (.t 5)⟩,
        ⟨some 9, none, .bin .add .sc (.t 8) (.c (.int .i64 1))⟩,
        ⟨some 5, none, .mv true (.t 9)⟩])
theorem u_C_hourglassref10_Cmp_k2 {C : CallW} {P : Program} {rd : Bool} {is : List Item} {fr : Fr} {σ : St} {K : KC} : runC C P rd C_hourglassref10_Cmp_k2 is fr σ K = runC C P rd (.sq [⟨some 8, none, .mv false (.t 5)⟩,
        ⟨some 9, none, .bin .add .sc (.t 8) (.c (.int .i64 1))⟩,
        ⟨some 5, none, .mv true (.t 9)⟩]) is fr σ K := (rfl)
def C_hourglassref10_Cmp_k3 : LCode := (.seq (.block 1 (.seq (.seq (.tree (.rd ⟨some 10, none, .mv false (.t 5)⟩ 0 false (.rd ⟨some 11, none, .ixa (.arr 16 1) (.t 2) (.t 10)⟩ 1 false (.rd ⟨some 12, none, .load1 false (.t 11)⟩ 2 false (.rd ⟨some 13, none, .mv false (.t 5)⟩ 3 false (.rd ⟨some 14, none, .ixa (.arr 16 1) (.t 3) (.t 13)⟩ 4 false (.rd ⟨some 15, none, .load1 false (.t 14)⟩ 5 false (.rd ⟨some 16, none, .bin .lss .sc (.t 12) (.t 15)⟩ 6 false .done)))))))) (.cond (.t 16) (.seq (.sq [⟨some 4, none, .mv true (.c (.int .i64 (-1)))⟩]) .ret) .skip)) C_hourglassref10_Cmp_k1)) C_hourglassref10_Cmp_k2)
theorem u_C_hourglassref10_Cmp_k3 {C : CallW} {P : Program} {rd : Bool} {is : List Item} {fr : Fr} {σ : St} {K : KC} : runC C P rd C_hourglassref10_Cmp_k3 is fr σ K = runC C P rd (.seq (.block 1 (.seq (.seq (.tree (.rd ⟨some 10, none, .mv false (.t 5)⟩ 0 false (.rd ⟨some 11, none, .ixa (.arr 16 1) (.t 2) (.t 10)⟩ 1 false (.rd ⟨some 12, none, .load1 false (.t 11)⟩ 2 false (.rd ⟨some 13, none, .mv false (.t 5)⟩ 3 false (.rd ⟨some 14, none, .ixa (.arr 16 1) (.t 3) (.t 13)⟩ 4 false (.rd ⟨some 15, none, .load1 false (.t 14)⟩ 5 false (.rd ⟨some 16, none, .bin .lss .sc (.t 12) (.t 15)⟩ 6 false .done)))))))) (.cond (.t 16) (.seq (.sq [⟨some 4, none, .mv true (.c (.int .i64 (-1)))⟩]) .ret) .skip)) C_hourglassref10_Cmp_k1)) C_hourglassref10_Cmp_k2) is fr σ K := (rfl)
def C_hourglassref10_Cmp_k4 : LCode := (.seq (.seq (.sq [⟨some 6, none, .mv false (.t 5)⟩,
        ⟨some 7, none, .bin .lss .sc (.t 6) (.c (.int .i64 16))⟩]) (.cond (.t 7) .skip (.exit 0))) C_hourglassref10_Cmp_k3)
theorem u_C_hourglassref10_Cmp_k4 {C : CallW} {P : Program} {rd : Bool} {is : List Item} {fr : Fr} {σ : St} {K : KC} : runC C P rd C_hourglassref10_Cmp_k4 is fr σ K = runC C P rd (.seq (.seq (.sq [⟨some 6, none, .mv false (.t 5)⟩,
        ⟨some 7, none, .bin .lss .sc (.t 6) (.c (.int .i64 16))⟩]) (.cond (.t 7) .skip (.exit 0))) C_hourglassref10_Cmp_k3) is fr σ K := (rfl)
def C_hourglassref10_Cmp_k5 : LCode := (.block 0 (.loop [false, false, true, true, false, true, false, false, false, false, false, false, false, false, false, false, false, false, false, false, false, false, false, false] C_hourglassref10_Cmp_k4))
theorem u_C_hourglassref10_Cmp_k5 {C : CallW} {P : Program} {rd : Bool} {is : List Item} {fr : Fr} {σ : St} {K : KC} : runC C P rd C_hourglassref10_Cmp_k5 is fr σ K = runC C P rd (.block 0 (.loop [false, false, true, true, false, true, false, false, false, false, false, false, false, false, false, false, false, false, false, false, false, false, false, false] C_hourglassref10_Cmp_k4)) is fr σ K := (rfl)
def C_hourglassref10_Cmp_k6 : LCode := (.seq (.seq (.sq [⟨some 5, none, .mv true (.c (.int .i64 0))⟩]) C_hourglassref10_Cmp_k5) (.seq (.sq [⟨some 4, none, .mv true (.c (.int .i64 0))⟩]) .ret))
theorem u_C_hourglassref10_Cmp_k6 {C : CallW} {P : Program} {rd : Bool} {is : List Item} {fr : Fr} {σ : St} {K : KC} : runC C P rd C_hourglassref10_Cmp_k6 is fr σ K = runC C P rd (.seq (.seq (.sq [⟨some 5, none, .mv true (.c (.int .i64 0))⟩]) C_hourglassref10_Cmp_k5) (.seq (.sq [⟨some 4, none, .mv true (.c (.int .i64 0))⟩]) .ret)) is fr σ K := (rfl)
--U C_hourglassref10_Cmp u_C_hourglassref10_Cmp_k1, u_C_hourglassref10_Cmp_k2, u_C_hourglassref10_Cmp_k3, u_C_hourglassref10_Cmp_k4, u_C_hourglassref10_Cmp_k5, u_C_hourglassref10_Cmp_k6
def C_hourglassref10_Cmp : LFn :=
  ⟨24, [.t 4], (.seq (.sq [⟨some 2, none, .box false false (.t 0)⟩,
    ⟨some 3, none, .box false false (.t 1)⟩,
    ⟨some 4, none, .mv true (.c (.int .i64 0))⟩]) C_hourglassref10_Cmp_k6)⟩

def C_hourglassref10_Within_k1 (f_hourglassref10_Cmp : FuncId) : LCode := (.seq (.sq [⟨some 7, none, .loadA 16 (.t 3)⟩,
    ⟨some 8, none, .loadA 16 (.t 4)⟩,
    ⟨some 9, none, .call (.f f_hourglassref10_Cmp) [(.t 7), (.t 8)]⟩,
    ⟨some 10, none, .bin .geq .sc (.t 9) (.c (.int .i64 0))⟩,
    ⟨some 11, none, .mv false (.t 10)⟩,
    ⟨some 12, some (11, true), .loadA 16 (.t 5)⟩,
    ⟨some 13, some (11, true), .build zk []⟩,
    ⟨some 14, some (11, true), .bin .eql (.leaf lk) (.t 12) (.t 13)⟩,
    ⟨some 15, some (11, true), .mv false (.t 14)⟩,
    ⟨some 16, some (15, false), .loadA 16 (.t 3)⟩,
    ⟨some 17, some (15, false), .loadA 16 (.t 5)⟩,
    ⟨some 18, some (15, false), .call (.f f_hourglassref10_Cmp) [(.t 16), (.t 17)]⟩,
    ⟨some 19, some (15, false), .bin .lss .sc (.t 18) (.c (.int .i64 0))⟩,
    ⟨some 20, some (11, true), .pick (.t 15) (.c (.bool true)) (.t 19)⟩,
    ⟨some 21, none, .pick (.t 11) (.t 20) (.c (.bool false))⟩,
    ⟨some 6, none, .mv true (.t 21)⟩]) .ret)
theorem u_C_hourglassref10_Within_k1 {C : CallW} {P : Program} {rd : Bool} {is : List Item} {fr : Fr} {σ : St} {K : KC} (f_hourglassref10_Cmp : FuncId) : runC C P rd (C_hourglassref10_Within_k1 f_hourglassref10_Cmp) is fr σ K = runC C P rd (.seq (.sq [⟨some 7, none, .loadA 16 (.t 3)⟩,
    ⟨some 8, none, .loadA 16 (.t 4)⟩,
    ⟨some 9, none, .call (.f f_hourglassref10_Cmp) [(.t 7), (.t 8)]⟩,
    ⟨some 10, none, .bin .geq .sc (.t 9) (.c (.int .i64 0))⟩,
    ⟨some 11, none, .mv false (.t 10)⟩,
    ⟨some 12, some (11, true), .loadA 16 (.t 5)⟩,
    ⟨some 13, some (11, true), .build zk []⟩,
    ⟨some 14, some (11, true), .bin .eql (.leaf lk) (.t 12) (.t 13)⟩,
    ⟨some 15, some (11, true), .mv false (.t 14)⟩,
    ⟨some 16, some (15, false), .loadA 16 (.t 3)⟩,
    ⟨some 17, some (15, false), .loadA 16 (.t 5)⟩,
    ⟨some 18, some (15, false), .call (.f f_hourglassref10_Cmp) [(.t 16), (.t 17)]⟩,
    ⟨some 19, some (15, false), .bin .lss .sc (.t 18) (.c (.int .i64 0))⟩,
    ⟨some 20, some (11, true), .pick (.t 15) (.c (.bool true)) (.t 19)⟩,
    ⟨some 21, none, .pick (.t 11) (.t 20) (.c (.bool false))⟩,
    ⟨some 6, none, .mv true (.t 21)⟩]) .ret) is fr σ K := (rfl)
--U C_hourglassref10_Within u_C_hourglassref10_Within_k1
def C_hourglassref10_Within (f_hourglassref10_Cmp : FuncId) : LFn :=
  ⟨22, [.t 6], (.seq (.sq [⟨some 3, none, .box false false (.t 0)⟩,
    ⟨some 4, none, .box false false (.t 1)⟩,
    ⟨some 5, none, .box false false (.t 2)⟩,
    ⟨some 6, none, .mv true (.c (.bool false))⟩]) (C_hourglassref10_Within_k1 f_hourglassref10_Cmp))⟩

def C_slices_Clone_Key_k1 : LCode := (.seq (.sq [⟨some 5, none, .bsl ⟨16, true, 16, (.agg zk)⟩ 0 []⟩,
    ⟨some 6, none, .mv false (.t 0)⟩,
    ⟨some 7, none, .app ⟨16, true, 16, (.agg zk)⟩ false (.t 5) (.t 6)⟩,
    ⟨some 2, none, .mv true (.t 7)⟩]) .ret)
theorem u_C_slices_Clone_Key_k1 {C : CallW} {P : Program} {rd : Bool} {is : List Item} {fr : Fr} {σ : St} {K : KC} : runC C P rd C_slices_Clone_Key_k1 is fr σ K = runC C P rd (.seq (.sq [⟨some 5, none, .bsl ⟨16, true, 16, (.agg zk)⟩ 0 []⟩,
    ⟨some 6, none, .mv false (.t 0)⟩,
    ⟨some 7, none, .app ⟨16, true, 16, (.agg zk)⟩ false (.t 5) (.t 6)⟩,
    ⟨some 2, none, .mv true (.t 7)⟩]) .ret) is fr σ K := (rfl)
def C_slices_Clone_Key_k2 : LCode := (.seq (.seq (.sq [⟨some 3, none, .mv false (.t 0)⟩,
    ⟨some 4, none, .bin .eql (.ref 1) (.t 3) (.c .nilS)⟩]) (.cond (.t 4) (.seq (.sq [⟨some 2, none, .mv true (.c .nilS)⟩]) .ret) .skip)) C_slices_Clone_Key_k1)
theorem u_C_slices_Clone_Key_k2 {C : CallW} {P : Program} {rd : Bool} {is : List Item} {fr : Fr} {σ : St} {K : KC} : runC C P rd C_slices_Clone_Key_k2 is fr σ K = runC C P rd (.seq (.seq (.sq [⟨some 3, none, .mv false (.t 0)⟩,
    ⟨some 4, none, .bin .eql (.ref 1) (.t 3) (.c .nilS)⟩]) (.cond (.t 4) (.seq (.sq [⟨some 2, none, .mv true (.c .nilS)⟩]) .ret) .skip)) C_slices_Clone_Key_k1) is fr σ K := (rfl)
--U C_slices_Clone_Key u_C_slices_Clone_Key_k1, u_C_slices_Clone_Key_k2
def C_slices_Clone_Key : LFn :=
  ⟨8, [.t 2], (.seq (.sq [⟨some 2, none, .mv true (.c .nilS)⟩]) C_slices_Clone_Key_k2)⟩

def C_route_New_k1 (f_key_Good f_key_Cmp f_slices_Clone_Key : FuncId) : LCode := (.cond (.t 29) (.seq (.sq [⟨some 2, none, .mv true (.c .nilP)⟩,
            ⟨some 3, none, .mv true (.c (.int .i64 1))⟩]) .ret) .skip)
theorem u_C_route_New_k1 {C : CallW} {P : Program} {rd : Bool} {is : List Item} {fr : Fr} {σ : St} {K : KC} (f_key_Good f_key_Cmp f_slices_Clone_Key : FuncId) : runC C P rd (C_route_New_k1 f_key_Good f_key_Cmp f_slices_Clone_Key) is fr σ K = runC C P rd (.cond (.t 29) (.seq (.sq [⟨some 2, none, .mv true (.c .nilP)⟩,
            ⟨some 3, none, .mv true (.c (.int .i64 1))⟩]) .ret) .skip) is fr σ K := (rfl)
def C_route_New_k2 (f_key_Good f_key_Cmp f_slices_Clone_Key : FuncId) : LCode := (.seq (.tree (.rd ⟨some 13, none, .loadA 16 (.t 5)⟩ 0 false (.mv ⟨some 14, none, .call (.f f_key_Good) [(.t 13)]⟩ [0] (.rd ⟨some 15, none, .un .not (.t 14)⟩ 2 false (.rd ⟨some 16, none, .mv false (.t 15)⟩ 3 false (.rd ⟨some 17, some (16, false), .mv false (.t 4)⟩ 4 false (.rd ⟨some 18, some (16, false), .bin .gtr .sc (.t 17) (.c (.int .i64 0))⟩ 5 false (.rd ⟨some 19, some (16, false), .mv false (.t 18)⟩ 6 false (.rd ⟨some 20, some (19, true), .mv false (.t 0)⟩ 7 false (.rd ⟨some 21, some (19, true), .mv false (.t 4)⟩ 8 false (.rd ⟨some 22, some (19, true), .bin .sub .sc (.t 21) (.c (.int .i64 1))⟩ 9 false (.rd ⟨some 23, some (19, true), .ixa (.sl 16) (.t 20) (.t 22)⟩ 10 false (.rd ⟨some 24, some (19, true), .loadA 16 (.t 23)⟩ 11 false (.rd ⟨some 25, some (19, true), .loadA 16 (.t 5)⟩ 12 false (.mv ⟨some 26, some (19, true), .call (.f f_key_Cmp) [(.t 24), (.t 25)]⟩ [0, 1, 2, 3, 4, 5, 6, 7, 8, 9, 10, 11, 12] (.rd ⟨some 27, some (19, true), .bin .geq .sc (.t 26) (.c (.int .i64 0))⟩ 14 false (.rd ⟨some 28, some (16, false), .pick (.t 19) (.t 27) (.c (.bool false))⟩ 15 false (.rd ⟨some 29, none, .pick (.t 16) (.c (.bool true)) (.t 28)⟩ 16 false .done))) .stop)))))))))))) .stop))) (C_route_New_k1 f_key_Good f_key_Cmp f_slices_Clone_Key))
theorem u_C_route_New_k2 {C : CallW} {P : Program} {rd : Bool} {is : List Item} {fr : Fr} {σ : St} {K : KC} (f_key_Good f_key_Cmp f_slices_Clone_Key : FuncId) : runC C P rd (C_route_New_k2 f_key_Good f_key_Cmp f_slices_Clone_Key) is fr σ K = runC C P rd (.seq (.tree (.rd ⟨some 13, none, .loadA 16 (.t 5)⟩ 0 false (.mv ⟨some 14, none, .call (.f f_key_Good) [(.t 13)]⟩ [0] (.rd ⟨some 15, none, .un .not (.t 14)⟩ 2 false (.rd ⟨some 16, none, .mv false (.t 15)⟩ 3 false (.rd ⟨some 17, some (16, false), .mv false (.t 4)⟩ 4 false (.rd ⟨some 18, some (16, false), .bin .gtr .sc (.t 17) (.c (.int .i64 0))⟩ 5 false (.rd ⟨some 19, some (16, false), .mv false (.t 18)⟩ 6 false (.rd ⟨some 20, some (19, true), .mv false (.t 0)⟩ 7 false (.rd ⟨some 21, some (19, true), .mv false (.t 4)⟩ 8 false (.rd ⟨some 22, some (19, true), .bin .sub .sc (.t 21) (.c (.int .i64 1))⟩ 9 false (.rd ⟨some 23, some (19, true), .ixa (.sl 16) (.t 20) (.t 22)⟩ 10 false (.rd ⟨some 24, some (19, true), .loadA 16 (.t 23)⟩ 11 false (.rd ⟨some 25, some (19, true), .loadA 16 (.t 5)⟩ 12 false (.mv ⟨some 26, some (19, true), .call (.f f_key_Cmp) [(.t 24), (.t 25)]⟩ [0, 1, 2, 3, 4, 5, 6, 7, 8, 9, 10, 11, 12] (.rd ⟨some 27, some (19, true), .bin .geq .sc (.t 26) (.c (.int .i64 0))⟩ 14 false (.rd ⟨some 28, some (16, false), .pick (.t 19) (.t 27) (.c (.bool false))⟩ 15 false (.rd ⟨some 29, none, .pick (.t 16) (.c (.bool true)) (.t 28)⟩ 16 false .done))) .stop)))))))))))) .stop))) (C_route_New_k1 f_key_Good f_key_Cmp f_slices_Clone_Key)) is fr σ K := (rfl)
def C_route_New_k3 (f_key_Good f_key_Cmp f_slices_Clone_Key : FuncId) : LCode := (.seq (.block 1 (.seq (.sq [⟨some 10, none, .mv false (.t 8)⟩,
          ⟨some 11, none, .ixa (.sl 16) (.t 6) (.t 8)⟩,
          ⟨some 12, none, .loadA 16 (.t 11)⟩,
          ⟨some 5, none, .alloc false zk⟩,
          ⟨some 4, none, .mv true (.t 10)⟩,
          ⟨none, none, .store 16 (.t 5) (.t 12)⟩]) (C_route_New_k2 f_key_Good f_key_Cmp f_slices_Clone_Key))) (.sq [⟨some 30, none, .bin .add .sc (.t 8) (.c (.int .i64 1))⟩,
        ⟨some 8, none, .mv false (.t 30)⟩]))
theorem u_C_route_New_k3 {C : CallW} {P : Program} {rd : Bool} {is : List Item} {fr : Fr} {σ : St} {K : KC} (f_key_Good f_key_Cmp f_slices_Clone_Key : FuncId) : runC C P rd (C_route_New_k3 f_key_Good f_key_Cmp f_slices_Clone_Key) is fr σ K = runC C P rd (.seq (.block 1 (.seq (.sq [⟨some 10, none, .mv false (.t 8)⟩,
          ⟨some 11, none, .ixa (.sl 16) (.t 6) (.t 8)⟩,
          ⟨some 12, none, .loadA 16 (.t 11)⟩,
          ⟨some 5, none, .alloc false zk⟩,
          ⟨some 4, none, .mv true (.t 10)⟩,
          ⟨none, none, .store 16 (.t 5) (.t 12)⟩]) (C_route_New_k2 f_key_Good f_key_Cmp f_slices_Clone_Key))) (.sq [⟨some 30, none, .bin .add .sc (.t 8) (.c (.int .i64 1))⟩,
        ⟨some 8, none, .mv false (.t 30)⟩])) is fr σ K := (rfl)
def C_route_New_k4 (f_key_Good f_key_Cmp f_slices_Clone_Key : FuncId) : LCode := (.seq (.sq [⟨some 9, none, .bin .lss .sc (.t 8) (.t 7)⟩]) (.seq (.cond (.t 9) .skip (.exit 0)) (C_route_New_k3 f_key_Good f_key_Cmp f_slices_Clone_Key)))
theorem u_C_route_New_k4 {C : CallW} {P : Program} {rd : Bool} {is : List Item} {fr : Fr} {σ : St} {K : KC} (f_key_Good f_key_Cmp f_slices_Clone_Key : FuncId) : runC C P rd (C_route_New_k4 f_key_Good f_key_Cmp f_slices_Clone_Key) is fr σ K = runC C P rd (.seq (.sq [⟨some 9, none, .bin .lss .sc (.t 8) (.t 7)⟩]) (.seq (.cond (.t 9) .skip (.exit 0)) (C_route_New_k3 f_key_Good f_key_Cmp f_slices_Clone_Key))) is fr σ K := (rfl)
def C_route_New_k5 (f_key_Good f_key_Cmp f_slices_Clone_Key : FuncId) : LCode := (.block 0 (.loop [true, false, false, false, false, false, true, true, true, false, false, false, false, false, false, false, false, false, false, false, false, false, false, false, false, false, false, false, false, false, false, false, false, false, false, false, false, false] (C_route_New_k4 f_key_Good f_key_Cmp f_slices_Clone_Key)))
theorem u_C_route_New_k5 {C : CallW} {P : Program} {rd : Bool} {is : List Item} {fr : Fr} {σ : St} {K : KC} (f_key_Good f_key_Cmp f_slices_Clone_Key : FuncId) : runC C P rd (C_route_New_k5 f_key_Good f_key_Cmp f_slices_Clone_Key) is fr σ K = runC C P rd (.block 0 (.loop [true, false, false, false, false, false, true, true, true, false, false, false, false, false, false, false, false, false, false, false, false, false, false, false, false, false, false, false, false, false, false, false, false, false, false, false, false, false] (C_route_New_k4 f_key_Good f_key_Cmp f_slices_Clone_Key))) is fr σ K := (rfl)
def C_route_New_k6 (f_key_Good f_key_Cmp f_slices_Clone_Key : FuncId) : LCode := (.cond (.t 33) (.seq (.sq [⟨some 2, none, .mv true (.c .nilP)⟩,
      ⟨some 3, none, .mv true (.c (.int .i64 1))⟩]) .ret) .skip)
theorem u_C_route_New_k6 {C : CallW} {P : Program} {rd : Bool} {is : List Item} {fr : Fr} {σ : St} {K : KC} (f_key_Good f_key_Cmp f_slices_Clone_Key : FuncId) : runC C P rd (C_route_New_k6 f_key_Good f_key_Cmp f_slices_Clone_Key) is fr σ K = runC C P rd (.cond (.t 33) (.seq (.sq [⟨some 2, none, .mv true (.c .nilP)⟩,
      ⟨some 3, none, .mv true (.c (.int .i64 1))⟩]) .ret) .skip) is fr σ K := (rfl)
def C_route_New_k7 (f_key_Good f_key_Cmp f_slices_Clone_Key : FuncId) : LCode := (.seq (.sq [⟨some 34, none, .mv true (.t 0)⟩,
    ⟨some 35, none, .call (.f f_slices_Clone_Key) [(.t 34)]⟩,
    ⟨some 36, none, .build [(.s .nilS)] [(0, 1, (.t 35))]⟩,
    ⟨some 37, none, .box false true (.t 36)⟩,
    ⟨some 2, none, .mv true (.t 37)⟩,
    ⟨some 3, none, .mv true (.c (.int .i64 0))⟩]) .ret)
theorem u_C_route_New_k7 {C : CallW} {P : Program} {rd : Bool} {is : List Item} {fr : Fr} {σ : St} {K : KC} (f_key_Good f_key_Cmp f_slices_Clone_Key : FuncId) : runC C P rd (C_route_New_k7 f_key_Good f_key_Cmp f_slices_Clone_Key) is fr σ K = runC C P rd (.seq (.sq [⟨some 34, none, .mv true (.t 0)⟩,
    ⟨some 35, none, .call (.f f_slices_Clone_Key) [(.t 34)]⟩,
    ⟨some 36, none, .build [(.s .nilS)] [(0, 1, (.t 35))]⟩,
    ⟨some 37, none, .box false true (.t 36)⟩,
    ⟨some 2, none, .mv true (.t 37)⟩,
    ⟨some 3, none, .mv true (.c (.int .i64 0))⟩]) .ret) is fr σ K := (rfl)
def C_route_New_k8 (f_key_Good f_key_Cmp f_slices_Clone_Key : FuncId) : LCode := (.seq (.seq (.sq [⟨some 31, none, .mv false (.t 0)⟩,
    ⟨some 32, none, .len .sl (.t 31)⟩,
    ⟨some 33, none, .bin .geq .sc (.t 32) (.c (.int .i64 8))⟩]) (C_route_New_k6 f_key_Good f_key_Cmp f_slices_Clone_Key)) (C_route_New_k7 f_key_Good f_key_Cmp f_slices_Clone_Key))
theorem u_C_route_New_k8 {C : CallW} {P : Program} {rd : Bool} {is : List Item} {fr : Fr} {σ : St} {K : KC} (f_key_Good f_key_Cmp f_slices_Clone_Key : FuncId) : runC C P rd (C_route_New_k8 f_key_Good f_key_Cmp f_slices_Clone_Key) is fr σ K = runC C P rd (.seq (.seq (.sq [⟨some 31, none, .mv false (.t 0)⟩,
    ⟨some 32, none, .len .sl (.t 31)⟩,
    ⟨some 33, none, .bin .geq .sc (.t 32) (.c (.int .i64 8))⟩]) (C_route_New_k6 f_key_Good f_key_Cmp f_slices_Clone_Key)) (C_route_New_k7 f_key_Good f_key_Cmp f_slices_Clone_Key)) is fr σ K := (rfl)
def C_route_New_k9 (f_key_Good f_key_Cmp f_slices_Clone_Key : FuncId) : LCode := (.seq (.seq (.sq [⟨some 6, none, .mv false (.t 0)⟩,
    ⟨some 7, none, .len .sl (.t 6)⟩,
    ⟨some 8, none, .mv false (.c (.int .i64 0))⟩]) (C_route_New_k5 f_key_Good f_key_Cmp f_slices_Clone_Key)) (C_route_New_k8 f_key_Good f_key_Cmp f_slices_Clone_Key))
theorem u_C_route_New_k9 {C : CallW} {P : Program} {rd : Bool} {is : List Item} {fr : Fr} {σ : St} {K : KC} (f_key_Good f_key_Cmp f_slices_Clone_Key : FuncId) : runC C P rd (C_route_New_k9 f_key_Good f_key_Cmp f_slices_Clone_Key) is fr σ K = runC C P rd (.seq (.seq (.sq [⟨some 6, none, .mv false (.t 0)⟩,
    ⟨some 7, none, .len .sl (.t 6)⟩,
    ⟨some 8, none, .mv false (.c (.int .i64 0))⟩]) (C_route_New_k5 f_key_Good f_key_Cmp f_slices_Clone_Key)) (C_route_New_k8 f_key_Good f_key_Cmp f_slices_Clone_Key)) is fr σ K := (rfl)
--U C_route_New u_C_route_New_k1, u_C_route_New_k2, u_C_route_New_k3, u_C_route_New_k4, u_C_route_New_k5, u_C_route_New_k6, u_C_route_New_k7, u_C_route_New_k8, u_C_route_New_k9
def C_route_New (f_key_Good f_key_Cmp f_slices_Clone_Key : FuncId) : LFn :=
  ⟨38, [.t 2, .t 3], (.seq (.sq [⟨some 2, none, .mv true (.c .nilP)⟩,
    ⟨some 3, none, .mv true (.c (.int .i64 0))⟩]) (C_route_New_k9 f_key_Good f_key_Cmp f_slices_Clone_Key))⟩

def C_route_Table_Nodes_k1 : LCode := (.seq (.sq [⟨some 3, none, .mv false (.t 0)⟩,
    ⟨some 4, none, .nilc (.t 3)⟩,
    ⟨some 5, none, .shift 0 (.t 4)⟩,
    ⟨some 6, none, .load1 false (.t 5)⟩,
    ⟨some 7, none, .len .sl (.t 6)⟩,
    ⟨some 8, none, .bin .add .sc (.t 7) (.c (.int .i64 1))⟩,
    ⟨some 2, none, .mv true (.t 8)⟩]) .ret)
theorem u_C_route_Table_Nodes_k1 {C : CallW} {P : Program} {rd : Bool} {is : List Item} {fr : Fr} {σ : St} {K : KC} : runC C P rd C_route_Table_Nodes_k1 is fr σ K = runC C P rd (.seq (.sq [⟨some 3, none, .mv false (.t 0)⟩,
    ⟨some 4, none, .nilc (.t 3)⟩,
    ⟨some 5, none, .shift 0 (.t 4)⟩,
    ⟨some 6, none, .load1 false (.t 5)⟩,
    ⟨some 7, none, .len .sl (.t 6)⟩,
    ⟨some 8, none, .bin .add .sc (.t 7) (.c (.int .i64 1))⟩,
    ⟨some 2, none, .mv true (.t 8)⟩]) .ret) is fr σ K := (rfl)
--U C_route_Table_Nodes u_C_route_Table_Nodes_k1
def C_route_Table_Nodes : LFn :=
  ⟨9, [.t 2], (.seq (.sq [⟨some 2, none, .mv true (.c (.int .i64 0))⟩]) C_route_Table_Nodes_k1)⟩

def C_route_Table_Of_k1 (f_key_Good f_key_Cmp : FuncId) : LCode := (.sq [⟨some 24, none, .mv false (.t 5)⟩,
            ⟨some 25, none, .bin .add .sc (.t 24) (.c (.int .i64 1))⟩,
            ⟨some 5, none, .mv true (.t 25)⟩])
theorem u_C_route_Table_Of_k1 {C : CallW} {P : Program} {rd : Bool} {is : List Item} {fr : Fr} {σ : St} {K : KC} (f_key_Good f_key_Cmp : FuncId) : runC C P rd (C_route_Table_Of_k1 f_key_Good f_key_Cmp) is fr σ K = runC C P rd (.sq [⟨some 24, none, .mv false (.t 5)⟩,
            ⟨some 25, none, .bin .add .sc (.t 24) (.c (.int .i64 1))⟩,
            ⟨some 5, none, .mv true (.t 25)⟩]) is fr σ K := (rfl)
def C_route_Table_Of_k2 (f_key_Good f_key_Cmp : FuncId) : LCode := (.seq (.sq [⟨some 20, none, .loadA 16 (.t 7)⟩,
          ⟨some 21, none, .loadA 16 (.t 3)⟩,
          ⟨some 22, none, .call (.f f_key_Cmp) [(.t 20), (.t 21)]⟩,
          ⟨some 23, none, .bin .leq .sc (.t 22) (.c (.int .i64 0))⟩]) (.cond (.t 23) (C_route_Table_Of_k1 f_key_Good f_key_Cmp) .skip))
theorem u_C_route_Table_Of_k2 {C : CallW} {P : Program} {rd : Bool} {is : List Item} {fr : Fr} {σ : St} {K : KC} (f_key_Good f_key_Cmp : FuncId) : runC C P rd (C_route_Table_Of_k2 f_key_Good f_key_Cmp) is fr σ K = runC C P rd (.seq (.sq [⟨some 20, none, .loadA 16 (.t 7)⟩,
          ⟨some 21, none, .loadA 16 (.t 3)⟩,
          ⟨some 22, none, .call (.f f_key_Cmp) [(.t 20), (.t 21)]⟩,
          ⟨some 23, none, .bin .leq .sc (.t 22) (.c (.int .i64 0))⟩]) (.cond (.t 23) (C_route_Table_Of_k1 f_key_Good f_key_Cmp) .skip)) is fr σ K := (rfl)
def C_route_Table_Of_k3 (f_key_Good f_key_Cmp : FuncId) : LCode := (.seq (.block 1 (.seq (.sq [⟨some 18, none, .ixa (.sl 16) (.t 14) (.t 16)⟩,
          ⟨some 19, none, .loadA 16 (.t 18)⟩,
          ⟨some 7, none, .alloc false zk⟩,
          ⟨none, none, .store 16 (.t 7) (.t 19)⟩]) (C_route_Table_Of_k2 f_key_Good f_key_Cmp))) (.sq [⟨some 26, none, .bin .add .sc (.t 16) (.c (.int .i64 1))⟩,
        ⟨some 16, none, .mv false (.t 26)⟩]))
theorem u_C_route_Table_Of_k3 {C : CallW} {P : Program} {rd : Bool} {is : List Item} {fr : Fr} {σ : St} {K : KC} (f_key_Good f_key_Cmp : FuncId) : runC C P rd (C_route_Table_Of_k3 f_key_Good f_key_Cmp) is fr σ K = runC C P rd (.seq (.block 1 (.seq (.sq [⟨some 18, none, .ixa (.sl 16) (.t 14) (.t 16)⟩,
          ⟨some 19, none, .loadA 16 (.t 18)⟩,
          ⟨some 7, none, .alloc false zk⟩,
          ⟨none, none, .store 16 (.t 7) (.t 19)⟩]) (C_route_Table_Of_k2 f_key_Good f_key_Cmp))) (.sq [⟨some 26, none, .bin .add .sc (.t 16) (.c (.int .i64 1))⟩,
        ⟨some 16, none, .mv false (.t 26)⟩])) is fr σ K := (rfl)
def C_route_Table_Of_k4 (f_key_Good f_key_Cmp : FuncId) : LCode := (.seq (.sq [⟨some 17, none, .bin .lss .sc (.t 16) (.t 15)⟩]) (.seq (.cond (.t 17) .skip (.exit 0)) (C_route_Table_Of_k3 f_key_Good f_key_Cmp)))
theorem u_C_route_Table_Of_k4 {C : CallW} {P : Program} {rd : Bool} {is : List Item} {fr : Fr} {σ : St} {K : KC} (f_key_Good f_key_Cmp : FuncId) : runC C P rd (C_route_Table_Of_k4 f_key_Good f_key_Cmp) is fr σ K = runC C P rd (.seq (.sq [⟨some 17, none, .bin .lss .sc (.t 16) (.t 15)⟩]) (.seq (.cond (.t 17) .skip (.exit 0)) (C_route_Table_Of_k3 f_key_Good f_key_Cmp))) is fr σ K := (rfl)
def C_route_Table_Of_k5 (f_key_Good f_key_Cmp : FuncId) : LCode := (.block 0 (.loop [false, false, false, true, false, true, false, false, false, false, false, false, false, false, true, true, true, false, false, false, false, false, false, false, false, false, false, false] (C_route_Table_Of_k4 f_key_Good f_key_Cmp)))
theorem u_C_route_Table_Of_k5 {C : CallW} {P : Program} {rd : Bool} {is : List Item} {fr : Fr} {σ : St} {K : KC} (f_key_Good f_key_Cmp : FuncId) : runC C P rd (C_route_Table_Of_k5 f_key_Good f_key_Cmp) is fr σ K = runC C P rd (.block 0 (.loop [false, false, false, true, false, true, false, false, false, false, false, false, false, false, true, true, true, false, false, false, false, false, false, false, false, false, false, false] (C_route_Table_Of_k4 f_key_Good f_key_Cmp))) is fr σ K := (rfl)
def C_route_Table_Of_k6 (f_key_Good f_key_Cmp : FuncId) : LCode := (.seq (.seq (.sq [⟨some 11, none, .mv false (.t 0)⟩,
    ⟨some 12, none, .nilc (.t 11)⟩,
    ⟨some 13, none, .shift 0 (.t 12)⟩,
    ⟨some 14, none, .load1 false (.t 13)⟩,
    ⟨some 15, none, .len .sl (.t 14)⟩,
    ⟨some 16, none, .mv false (.c (.int .i64 0))⟩]) (C_route_Table_Of_k5 f_key_Good f_key_Cmp)) (.seq (.sq [⟨some 27, none, .mv false (.t 5)⟩,
    ⟨some 4, none, .mv true (.t 27)⟩]) .ret))
theorem u_C_route_Table_Of_k6 {C : CallW} {P : Program} {rd : Bool} {is : List Item} {fr : Fr} {σ : St} {K : KC} (f_key_Good f_key_Cmp : FuncId) : runC C P rd (C_route_Table_Of_k6 f_key_Good f_key_Cmp) is fr σ K = runC C P rd (.seq (.seq (.sq [⟨some 11, none, .mv false (.t 0)⟩,
    ⟨some 12, none, .nilc (.t 11)⟩,
    ⟨some 13, none, .shift 0 (.t 12)⟩,
    ⟨some 14, none, .load1 false (.t 13)⟩,
    ⟨some 15, none, .len .sl (.t 14)⟩,
    ⟨some 16, none, .mv false (.c (.int .i64 0))⟩]) (C_route_Table_Of_k5 f_key_Good f_key_Cmp)) (.seq (.sq [⟨some 27, none, .mv false (.t 5)⟩,
    ⟨some 4, none, .mv true (.t 27)⟩]) .ret)) is fr σ K := (rfl)
def C_route_Table_Of_k7 (f_key_Good f_key_Cmp : FuncId) : LCode := (.seq (.seq (.sq [⟨some 8, none, .loadA 16 (.t 3)⟩,
    ⟨some 9, none, .call (.f f_key_Good) [(.t 8)]⟩,
    ⟨some 10, none, .un .not (.t 9)⟩]) (.cond (.t 10) (.seq (.sq [⟨some 4, none, .mv true (.c (.int .i64 (-1)))⟩]) .ret) .skip)) (.seq (.sq [⟨some 5, none, .mv true (.c (.int .i64 0))⟩]) (C_route_Table_Of_k6 f_key_Good f_key_Cmp)))
theorem u_C_route_Table_Of_k7 {C : CallW} {P : Program} {rd : Bool} {is : List Item} {fr : Fr} {σ : St} {K : KC} (f_key_Good f_key_Cmp : FuncId) : runC C P rd (C_route_Table_Of_k7 f_key_Good f_key_Cmp) is fr σ K = runC C P rd (.seq (.seq (.sq [⟨some 8, none, .loadA 16 (.t 3)⟩,
    ⟨some 9, none, .call (.f f_key_Good) [(.t 8)]⟩,
    ⟨some 10, none, .un .not (.t 9)⟩]) (.cond (.t 10) (.seq (.sq [⟨some 4, none, .mv true (.c (.int .i64 (-1)))⟩]) .ret) .skip)) (.seq (.sq [⟨some 5, none, .mv true (.c (.int .i64 0))⟩]) (C_route_Table_Of_k6 f_key_Good f_key_Cmp))) is fr σ K := (rfl)
--U C_route_Table_Of u_C_route_Table_Of_k1, u_C_route_Table_Of_k2, u_C_route_Table_Of_k3, u_C_route_Table_Of_k4, u_C_route_Table_Of_k5, u_C_route_Table_Of_k6, u_C_route_Table_Of_k7
def C_route_Table_Of (f_key_Good f_key_Cmp : FuncId) : LFn :=
  ⟨28, [.t 4], (.seq (.sq [⟨some 3, none, .box false false (.t 1)⟩,
    ⟨some 4, none, .mv true (.c (.int .i64 0))⟩]) (C_route_Table_Of_k7 f_key_Good f_key_Cmp))⟩

def C_route_Table_Split_k1 (f_route_Table_Nodes f_route_Table_Of : FuncId) : LCode := (.tree (.rd ⟨some 24, none, .mv false (.t 5)⟩ 0 true (.rd ⟨some 25, none, .mv false (.t 8)⟩ 1 true (.rd ⟨some 26, none, .mv false (.t 5)⟩ 2 false (.rd ⟨some 27, none, .mv false (.t 8)⟩ 3 false (.rd ⟨some 28, none, .ixa (.sl 1) (.t 26) (.t 27)⟩ 4 false (.rd ⟨some 30, none, .loadA 18 (.t 7)⟩ 6 true (.rd ⟨some 31, none, .bsl ⟨18, true, 40, (.agg (zk ++ [(.s (.str [])), (.s (.bool false))]))⟩ 1 [(0, (.t 30))]⟩ 7 true (.mv ⟨some 29, none, .load1 true (.t 28)⟩ [2, 3, 4] (.mv ⟨some 32, none, .app ⟨18, true, 40, (.agg (zk ++ [(.s (.str [])), (.s (.bool false))]))⟩ false (.t 29) (.t 31)⟩ [2, 3, 4, 5, 6, 7] (.rd ⟨some 33, none, .ixa (.sl 1) (.t 24) (.t 25)⟩ 9 false (.mv ⟨none, none, .store 1 (.t 33) (.t 32)⟩ [0, 1, 2, 3, 4, 5, 6, 7, 8, 9] .done .stop)) .stop) .stop)))))))))
theorem u_C_route_Table_Split_k1 {C : CallW} {P : Program} {rd : Bool} {is : List Item} {fr : Fr} {σ : St} {K : KC} (f_route_Table_Nodes f_route_Table_Of : FuncId) : runC C P rd (C_route_Table_Split_k1 f_route_Table_Nodes f_route_Table_Of) is fr σ K = runC C P rd (.tree (.rd ⟨some 24, none, .mv false (.t 5)⟩ 0 true (.rd ⟨some 25, none, .mv false (.t 8)⟩ 1 true (.rd ⟨some 26, none, .mv false (.t 5)⟩ 2 false (.rd ⟨some 27, none, .mv false (.t 8)⟩ 3 false (.rd ⟨some 28, none, .ixa (.sl 1) (.t 26) (.t 27)⟩ 4 false (.rd ⟨some 30, none, .loadA 18 (.t 7)⟩ 6 true (.rd ⟨some 31, none, .bsl ⟨18, true, 40, (.agg (zk ++ [(.s (.str [])), (.s (.bool false))]))⟩ 1 [(0, (.t 30))]⟩ 7 true (.mv ⟨some 29, none, .load1 true (.t 28)⟩ [2, 3, 4] (.mv ⟨some 32, none, .app ⟨18, true, 40, (.agg (zk ++ [(.s (.str [])), (.s (.bool false))]))⟩ false (.t 29) (.t 31)⟩ [2, 3, 4, 5, 6, 7] (.rd ⟨some 33, none, .ixa (.sl 1) (.t 24) (.t 25)⟩ 9 false (.mv ⟨none, none, .store 1 (.t 33) (.t 32)⟩ [0, 1, 2, 3, 4, 5, 6, 7, 8, 9] .done .stop)) .stop) .stop))))))))) is fr σ K := (rfl)
def C_route_Table_Split_k2 (f_route_Table_Nodes f_route_Table_Of : FuncId) : LCode := (.seq (.sq [⟨some 22, none, .mv false (.t 8)⟩,
          ⟨some 23, none, .bin .geq .sc (.t 22) (.c (.int .i64 0))⟩]) (.cond (.t 23) (C_route_Table_Split_k1 f_route_Table_Nodes f_route_Table_Of) .skip))
theorem u_C_route_Table_Split_k2 {C : CallW} {P : Program} {rd : Bool} {is : List Item} {fr : Fr} {σ : St} {K : KC} (f_route_Table_Nodes f_route_Table_Of : FuncId) : runC C P rd (C_route_Table_Split_k2 f_route_Table_Nodes f_route_Table_Of) is fr σ K = runC C P rd (.seq (.sq [⟨some 22, none, .mv false (.t 8)⟩,
          ⟨some 23, none, .bin .geq .sc (.t 22) (.c (.int .i64 0))⟩]) (.cond (.t 23) (C_route_Table_Split_k1 f_route_Table_Nodes f_route_Table_Of) .skip)) is fr σ K := (rfl)
def C_route_Table_Split_k3 (f_route_Table_Nodes f_route_Table_Of : FuncId) : LCode := (.seq (.sq [⟨some 18, none, .mv false (.t 0)⟩,
          ⟨some 19, none, .shift 0 (.t 7)⟩,
          ⟨some 20, none, .loadA 16 (.t 19)⟩,
          ⟨some 21, none, .call (.f f_route_Table_Of) [(.t 18), (.t 20)]⟩,
          ⟨some 8, none, .mv true (.t 21)⟩]) (C_route_Table_Split_k2 f_route_Table_Nodes f_route_Table_Of))
theorem u_C_route_Table_Split_k3 {C : CallW} {P : Program} {rd : Bool} {is : List Item} {fr : Fr} {σ : St} {K : KC} (f_route_Table_Nodes f_route_Table_Of : FuncId) : runC C P rd (C_route_Table_Split_k3 f_route_Table_Nodes f_route_Table_Of) is fr σ K = runC C P rd (.seq (.sq [⟨some 18, none, .mv false (.t 0)⟩,
          ⟨some 19, none, .shift 0 (.t 7)⟩,
          ⟨some 20, none, .loadA 16 (.t 19)⟩,
          ⟨some 21, none, .call (.f f_route_Table_Of) [(.t 18), (.t 20)]⟩,
          ⟨some 8, none, .mv true (.t 21)⟩]) (C_route_Table_Split_k2 f_route_Table_Nodes f_route_Table_Of)) is fr σ K := (rfl)
def C_route_Table_Split_k4 (f_route_Table_Nodes f_route_Table_Of : FuncId) : LCode := (.seq (.block 1 (.seq (.sq [⟨some 16, none, .ixa (.sl 18) (.t 12) (.t 14)⟩,
          ⟨some 17, none, .loadA 18 (.t 16)⟩,
          ⟨some 7, none, .alloc false (zk ++ [(.s (.str [])), (.s (.bool false))])⟩,
          ⟨none, none, .store 18 (.t 7) (.t 17)⟩]) (C_route_Table_Split_k3 f_route_Table_Nodes f_route_Table_Of))) (.sq [⟨some 34, none, .bin .add .sc (.t 14) (.c (.int .i64 1))⟩,
        ⟨some 14, none, .mv false (.t 34)⟩]))
theorem u_C_route_Table_Split_k4 {C : CallW} {P : Program} {rd : Bool} {is : List Item} {fr : Fr} {σ : St} {K : KC} (f_route_Table_Nodes f_route_Table_Of : FuncId) : runC C P rd (C_route_Table_Split_k4 f_route_Table_Nodes f_route_Table_Of) is fr σ K = runC C P rd (.seq (.block 1 (.seq (.sq [⟨some 16, none, .ixa (.sl 18) (.t 12) (.t 14)⟩,
          ⟨some 17, none, .loadA 18 (.t 16)⟩,
          ⟨some 7, none, .alloc false (zk ++ [(.s (.str [])), (.s (.bool false))])⟩,
          ⟨none, none, .store 18 (.t 7) (.t 17)⟩]) (C_route_Table_Split_k3 f_route_Table_Nodes f_route_Table_Of))) (.sq [⟨some 34, none, .bin .add .sc (.t 14) (.c (.int .i64 1))⟩,
        ⟨some 14, none, .mv false (.t 34)⟩])) is fr σ K := (rfl)
def C_route_Table_Split_k5 (f_route_Table_Nodes f_route_Table_Of : FuncId) : LCode := (.seq (.sq [⟨some 15, none, .bin .lss .sc (.t 14) (.t 13)⟩]) (.seq (.cond (.t 15) .skip (.exit 0)) (C_route_Table_Split_k4 f_route_Table_Nodes f_route_Table_Of)))
theorem u_C_route_Table_Split_k5 {C : CallW} {P : Program} {rd : Bool} {is : List Item} {fr : Fr} {σ : St} {K : KC} (f_route_Table_Nodes f_route_Table_Of : FuncId) : runC C P rd (C_route_Table_Split_k5 f_route_Table_Nodes f_route_Table_Of) is fr σ K = runC C P rd (.seq (.sq [⟨some 15, none, .bin .lss .sc (.t 14) (.t 13)⟩]) (.seq (.cond (.t 15) .skip (.exit 0)) (C_route_Table_Split_k4 f_route_Table_Nodes f_route_Table_Of))) is fr σ K := (rfl)
def C_route_Table_Split_k6 (f_route_Table_Nodes f_route_Table_Of : FuncId) : LCode := (.block 0 (.loop [true, false, false, false, false, true, false, false, false, false, false, false, true, true, true, false, false, false, false, false, false, false, false, false, false, false, false, false, false, false, false, false, false, false, false, false] (C_route_Table_Split_k5 f_route_Table_Nodes f_route_Table_Of)))
theorem u_C_route_Table_Split_k6 {C : CallW} {P : Program} {rd : Bool} {is : List Item} {fr : Fr} {σ : St} {K : KC} (f_route_Table_Nodes f_route_Table_Of : FuncId) : runC C P rd (C_route_Table_Split_k6 f_route_Table_Nodes f_route_Table_Of) is fr σ K = runC C P rd (.block 0 (.loop [true, false, false, false, false, true, false, false, false, false, false, false, true, true, true, false, false, false, false, false, false, false, false, false, false, false, false, false, false, false, false, false, false, false, false, false] (C_route_Table_Split_k5 f_route_Table_Nodes f_route_Table_Of))) is fr σ K := (rfl)
def C_route_Table_Split_k7 (f_route_Table_Nodes f_route_Table_Of : FuncId) : LCode := (.seq (.seq (.sq [⟨some 12, none, .mv false (.t 1)⟩,
    ⟨some 13, none, .len .sl (.t 12)⟩,
    ⟨some 14, none, .mv false (.c (.int .i64 0))⟩]) (C_route_Table_Split_k6 f_route_Table_Nodes f_route_Table_Of)) (.seq (.sq [⟨some 35, none, .mv true (.t 5)⟩,
    ⟨some 4, none, .mv true (.t 35)⟩]) .ret))
theorem u_C_route_Table_Split_k7 {C : CallW} {P : Program} {rd : Bool} {is : List Item} {fr : Fr} {σ : St} {K : KC} (f_route_Table_Nodes f_route_Table_Of : FuncId) : runC C P rd (C_route_Table_Split_k7 f_route_Table_Nodes f_route_Table_Of) is fr σ K = runC C P rd (.seq (.seq (.sq [⟨some 12, none, .mv false (.t 1)⟩,
    ⟨some 13, none, .len .sl (.t 12)⟩,
    ⟨some 14, none, .mv false (.c (.int .i64 0))⟩]) (C_route_Table_Split_k6 f_route_Table_Nodes f_route_Table_Of)) (.seq (.sq [⟨some 35, none, .mv true (.t 5)⟩,
    ⟨some 4, none, .mv true (.t 35)⟩]) .ret)) is fr σ K := (rfl)
def C_route_Table_Split_k8 (f_route_Table_Nodes f_route_Table_Of : FuncId) : LCode := (.seq (.sq [⟨some 9, none, .mv false (.t 0)⟩,
    ⟨some 10, none, .call (.f f_route_Table_Nodes) [(.t 9)]⟩,
    ⟨some 11, none, .mksl false true ⟨1, false, 24, (.s .nilS)⟩ (.t 10) (.t 10)⟩,
    ⟨some 5, none, .mv true (.t 11)⟩]) (C_route_Table_Split_k7 f_route_Table_Nodes f_route_Table_Of))
theorem u_C_route_Table_Split_k8 {C : CallW} {P : Program} {rd : Bool} {is : List Item} {fr : Fr} {σ : St} {K : KC} (f_route_Table_Nodes f_route_Table_Of : FuncId) : runC C P rd (C_route_Table_Split_k8 f_route_Table_Nodes f_route_Table_Of) is fr σ K = runC C P rd (.seq (.sq [⟨some 9, none, .mv false (.t 0)⟩,
    ⟨some 10, none, .call (.f f_route_Table_Nodes) [(.t 9)]⟩,
    ⟨some 11, none, .mksl false true ⟨1, false, 24, (.s .nilS)⟩ (.t 10) (.t 10)⟩,
    ⟨some 5, none, .mv true (.t 11)⟩]) (C_route_Table_Split_k7 f_route_Table_Nodes f_route_Table_Of)) is fr σ K := (rfl)
--U C_route_Table_Split u_C_route_Table_Split_k1, u_C_route_Table_Split_k2, u_C_route_Table_Split_k3, u_C_route_Table_Split_k4, u_C_route_Table_Split_k5, u_C_route_Table_Split_k6, u_C_route_Table_Split_k7, u_C_route_Table_Split_k8
def C_route_Table_Split (f_route_Table_Nodes f_route_Table_Of : FuncId) : LFn :=
  ⟨36, [.t 4], (.seq (.sq [⟨some 4, none, .mv true (.c .nilS)⟩]) (C_route_Table_Split_k8 f_route_Table_Nodes f_route_Table_Of))⟩

def C_route_Table_Cover_k1 (f_key_Cmp f_route_Table_Nodes : FuncId) : LCode := (.sq [⟨some 69, none, .mv true (.t 8)⟩,
            ⟨some 70, none, .mv false (.t 9)⟩,
            ⟨some 71, none, .bsl ⟨1, false, 8, (.s (.int .i64 0))⟩ 1 [(0, (.t 70))]⟩,
            ⟨some 72, none, .app ⟨1, false, 8, (.s (.int .i64 0))⟩ false (.t 69) (.t 71)⟩,
            ⟨some 8, none, .mv true (.t 72)⟩])
theorem u_C_route_Table_Cover_k1 {C : CallW} {P : Program} {rd : Bool} {is : List Item} {fr : Fr} {σ : St} {K : KC} (f_key_Cmp f_route_Table_Nodes : FuncId) : runC C P rd (C_route_Table_Cover_k1 f_key_Cmp f_route_Table_Nodes) is fr σ K = runC C P rd (.sq [⟨some 69, none, .mv true (.t 8)⟩,
            ⟨some 70, none, .mv false (.t 9)⟩,
            ⟨some 71, none, .bsl ⟨1, false, 8, (.s (.int .i64 0))⟩ 1 [(0, (.t 70))]⟩,
            ⟨some 72, none, .app ⟨1, false, 8, (.s (.int .i64 0))⟩ false (.t 69) (.t 71)⟩,
            ⟨some 8, none, .mv true (.t 72)⟩]) is fr σ K := (rfl)
def C_route_Table_Cover_k2 (f_key_Cmp f_route_Table_Nodes : FuncId) : LCode := (.seq (.sq [⟨some 65, none, .mv false (.t 10)⟩,
          ⟨some 66, none, .mv false (.t 65)⟩,
          ⟨some 67, some (66, true), .mv false (.t 11)⟩,
          ⟨some 68, none, .pick (.t 66) (.t 67) (.c (.bool false))⟩]) (.cond (.t 68) (C_route_Table_Cover_k1 f_key_Cmp f_route_Table_Nodes) .skip))
theorem u_C_route_Table_Cover_k2 {C : CallW} {P : Program} {rd : Bool} {is : List Item} {fr : Fr} {σ : St} {K : KC} (f_key_Cmp f_route_Table_Nodes : FuncId) : runC C P rd (C_route_Table_Cover_k2 f_key_Cmp f_route_Table_Nodes) is fr σ K = runC C P rd (.seq (.sq [⟨some 65, none, .mv false (.t 10)⟩,
          ⟨some 66, none, .mv false (.t 65)⟩,
          ⟨some 67, some (66, true), .mv false (.t 11)⟩,
          ⟨some 68, none, .pick (.t 66) (.t 67) (.c (.bool false))⟩]) (.cond (.t 68) (C_route_Table_Cover_k1 f_key_Cmp f_route_Table_Nodes) .skip)) is fr σ K := (rfl)
def C_route_Table_Cover_k3 (f_key_Cmp f_route_Table_Nodes : FuncId) : LCode := (.seq (.tree (.rd ⟨some 47, none, .mv false (.t 9)⟩ 0 false (.rd ⟨some 48, none, .bin .eql .sc (.t 47) (.c (.int .i64 0))⟩ 1 false (.rd ⟨some 49, none, .mv false (.t 48)⟩ 2 false (.rd ⟨some 50, some (49, false), .mv false (.t 7)⟩ 3 false (.rd ⟨some 51, none, .pick (.t 49) (.c (.bool true)) (.t 50)⟩ 4 false (.rd ⟨some 52, none, .mv false (.t 51)⟩ 5 false (.rd ⟨some 53, some (52, false), .mv false (.t 0)⟩ 6 false (.rd ⟨some 54, some (52, false), .nilc (.t 53)⟩ 7 false (.rd ⟨some 55, some (52, false), .shift 0 (.t 54)⟩ 8 false (.rd ⟨some 56, some (52, false), .load1 false (.t 55)⟩ 9 false (.rd ⟨some 57, some (52, false), .mv false (.t 9)⟩ 10 false (.rd ⟨some 58, some (52, false), .bin .sub .sc (.t 57) (.c (.int .i64 1))⟩ 11 false (.rd ⟨some 59, some (52, false), .ixa (.sl 16) (.t 56) (.t 58)⟩ 12 false (.rd ⟨some 60, some (52, false), .loadA 16 (.t 59)⟩ 13 false (.rd ⟨some 61, some (52, false), .loadA 16 (.t 5)⟩ 14 false (.mv ⟨some 62, some (52, false), .call (.f f_key_Cmp) [(.t 60), (.t 61)]⟩ [0, 1, 2, 3, 4, 5, 6, 7, 8, 9, 10, 11, 12, 13, 14] (.rd ⟨some 63, some (52, false), .bin .lss .sc (.t 62) (.c (.int .i64 0))⟩ 16 false (.rd ⟨some 64, none, .pick (.t 52) (.c (.bool true)) (.t 63)⟩ 17 false (.mv ⟨some 11, none, .mv true (.t 64)⟩ [0, 1, 2, 3, 4, 5, 6, 7, 8, 9, 10, 11, 12, 13, 14, 15, 16, 17] .done .stop))) .stop))))))))))))))))) (C_route_Table_Cover_k2 f_key_Cmp f_route_Table_Nodes))
theorem u_C_route_Table_Cover_k3 {C : CallW} {P : Program} {rd : Bool} {is : List Item} {fr : Fr} {σ : St} {K : KC} (f_key_Cmp f_route_Table_Nodes : FuncId) : runC C P rd (C_route_Table_Cover_k3 f_key_Cmp f_route_Table_Nodes) is fr σ K = runC C P rd (.seq (.tree (.rd ⟨some 47, none, .mv false (.t 9)⟩ 0 false (.rd ⟨some 48, none, .bin .eql .sc (.t 47) (.c (.int .i64 0))⟩ 1 false (.rd ⟨some 49, none, .mv false (.t 48)⟩ 2 false (.rd ⟨some 50, some (49, false), .mv false (.t 7)⟩ 3 false (.rd ⟨some 51, none, .pick (.t 49) (.c (.bool true)) (.t 50)⟩ 4 false (.rd ⟨some 52, none, .mv false (.t 51)⟩ 5 false (.rd ⟨some 53, some (52, false), .mv false (.t 0)⟩ 6 false (.rd ⟨some 54, some (52, false), .nilc (.t 53)⟩ 7 false (.rd ⟨some 55, some (52, false), .shift 0 (.t 54)⟩ 8 false (.rd ⟨some 56, some (52, false), .load1 false (.t 55)⟩ 9 false (.rd ⟨some 57, some (52, false), .mv false (.t 9)⟩ 10 false (.rd ⟨some 58, some (52, false), .bin .sub .sc (.t 57) (.c (.int .i64 1))⟩ 11 false (.rd ⟨some 59, some (52, false), .ixa (.sl 16) (.t 56) (.t 58)⟩ 12 false (.rd ⟨some 60, some (52, false), .loadA 16 (.t 59)⟩ 13 false (.rd ⟨some 61, some (52, false), .loadA 16 (.t 5)⟩ 14 false (.mv ⟨some 62, some (52, false), .call (.f f_key_Cmp) [(.t 60), (.t 61)]⟩ [0, 1, 2, 3, 4, 5, 6, 7, 8, 9, 10, 11, 12, 13, 14] (.rd ⟨some 63, some (52, false), .bin .lss .sc (.t 62) (.c (.int .i64 0))⟩ 16 false (.rd ⟨some 64, none, .pick (.t 52) (.c (.bool true)) (.t 63)⟩ 17 false (.mv ⟨some 11, none, .mv true (.t 64)⟩ [0, 1, 2, 3, 4, 5, 6, 7, 8, 9, 10, 11, 12, 13, 14, 15, 16, 17] .done .stop))) .stop))))))))))))))))) (C_route_Table_Cover_k2 f_key_Cmp f_route_Table_Nodes)) is fr σ K := (rfl)
def C_route_Table_Cover_k4 (f_key_Cmp f_route_Table_Nodes : FuncId) : LCode := (.seq (.tree (.rd ⟨some 28, none, .mv false (.t 9)⟩ 0 false (.rd ⟨some 29, none, .mv false (.t 0)⟩ 1 false (.rd ⟨some 30, none, .nilc (.t 29)⟩ 2 false (.rd ⟨some 31, none, .shift 0 (.t 30)⟩ 3 false (.rd ⟨some 32, none, .load1 false (.t 31)⟩ 4 false (.rd ⟨some 33, none, .len .sl (.t 32)⟩ 5 false (.rd ⟨some 34, none, .bin .eql .sc (.t 28) (.t 33)⟩ 6 false (.rd ⟨some 35, none, .mv false (.t 34)⟩ 7 false (.rd ⟨some 36, some (35, false), .mv false (.t 0)⟩ 8 false (.rd ⟨some 37, some (35, false), .nilc (.t 36)⟩ 9 false (.rd ⟨some 38, some (35, false), .shift 0 (.t 37)⟩ 10 false (.rd ⟨some 39, some (35, false), .load1 false (.t 38)⟩ 11 false (.rd ⟨some 40, some (35, false), .mv false (.t 9)⟩ 12 false (.rd ⟨some 41, some (35, false), .ixa (.sl 16) (.t 39) (.t 40)⟩ 13 false (.rd ⟨some 42, some (35, false), .loadA 16 (.t 41)⟩ 14 false (.rd ⟨some 43, some (35, false), .loadA 16 (.t 4)⟩ 15 false (.mv ⟨some 44, some (35, false), .call (.f f_key_Cmp) [(.t 42), (.t 43)]⟩ [0, 1, 2, 3, 4, 5, 6, 7, 8, 9, 10, 11, 12, 13, 14, 15] (.rd ⟨some 45, some (35, false), .bin .gtr .sc (.t 44) (.c (.int .i64 0))⟩ 17 false (.rd ⟨some 46, none, .pick (.t 35) (.c (.bool true)) (.t 45)⟩ 18 false (.mv ⟨some 10, none, .mv true (.t 46)⟩ [0, 1, 2, 3, 4, 5, 6, 7, 8, 9, 10, 11, 12, 13, 14, 15, 16, 17, 18] .done .stop))) .stop)))))))))))))))))) (C_route_Table_Cover_k3 f_key_Cmp f_route_Table_Nodes))
theorem u_C_route_Table_Cover_k4 {C : CallW} {P : Program} {rd : Bool} {is : List Item} {fr : Fr} {σ : St} {K : KC} (f_key_Cmp f_route_Table_Nodes : FuncId) : runC C P rd (C_route_Table_Cover_k4 f_key_Cmp f_route_Table_Nodes) is fr σ K = runC C P rd (.seq (.tree (.rd ⟨some 28, none, .mv false (.t 9)⟩ 0 false (.rd ⟨some 29, none, .mv false (.t 0)⟩ 1 false (.rd ⟨some 30, none, .nilc (.t 29)⟩ 2 false (.rd ⟨some 31, none, .shift 0 (.t 30)⟩ 3 false (.rd ⟨some 32, none, .load1 false (.t 31)⟩ 4 false (.rd ⟨some 33, none, .len .sl (.t 32)⟩ 5 false (.rd ⟨some 34, none, .bin .eql .sc (.t 28) (.t 33)⟩ 6 false (.rd ⟨some 35, none, .mv false (.t 34)⟩ 7 false (.rd ⟨some 36, some (35, false), .mv false (.t 0)⟩ 8 false (.rd ⟨some 37, some (35, false), .nilc (.t 36)⟩ 9 false (.rd ⟨some 38, some (35, false), .shift 0 (.t 37)⟩ 10 false (.rd ⟨some 39, some (35, false), .load1 false (.t 38)⟩ 11 false (.rd ⟨some 40, some (35, false), .mv false (.t 9)⟩ 12 false (.rd ⟨some 41, some (35, false), .ixa (.sl 16) (.t 39) (.t 40)⟩ 13 false (.rd ⟨some 42, some (35, false), .loadA 16 (.t 41)⟩ 14 false (.rd ⟨some 43, some (35, false), .loadA 16 (.t 4)⟩ 15 false (.mv ⟨some 44, some (35, false), .call (.f f_key_Cmp) [(.t 42), (.t 43)]⟩ [0, 1, 2, 3, 4, 5, 6, 7, 8, 9, 10, 11, 12, 13, 14, 15] (.rd ⟨some 45, some (35, false), .bin .gtr .sc (.t 44) (.c (.int .i64 0))⟩ 17 false (.rd ⟨some 46, none, .pick (.t 35) (.c (.bool true)) (.t 45)⟩ 18 false (.mv ⟨some 10, none, .mv true (.t 46)⟩ [0, 1, 2, 3, 4, 5, 6, 7, 8, 9, 10, 11, 12, 13, 14, 15, 16, 17, 18] .done .stop))) .stop)))))))))))))))))) (C_route_Table_Cover_k3 f_key_Cmp f_route_Table_Nodes)) is fr σ K := (rfl)
def C_route_Table_Cover_k5 (f_key_Cmp f_route_Table_Nodes : FuncId) : LCode := (.seq (.block 1 (.seq (.sq [⟨some 27, none, .mv false (.t 25)⟩,
          ⟨some 9, none, .mv true (.t 27)⟩]) (C_route_Table_Cover_k4 f_key_Cmp f_route_Table_Nodes))) (.sq [⟨some 73, none, .bin .add .sc (.t 25) (.c (.int .i64 1))⟩,
        ⟨some 25, none, .mv false (.t 73)⟩]))
theorem u_C_route_Table_Cover_k5 {C : CallW} {P : Program} {rd : Bool} {is : List Item} {fr : Fr} {σ : St} {K : KC} (f_key_Cmp f_route_Table_Nodes : FuncId) : runC C P rd (C_route_Table_Cover_k5 f_key_Cmp f_route_Table_Nodes) is fr σ K = runC C P rd (.seq (.block 1 (.seq (.sq [⟨some 27, none, .mv false (.t 25)⟩,
          ⟨some 9, none, .mv true (.t 27)⟩]) (C_route_Table_Cover_k4 f_key_Cmp f_route_Table_Nodes))) (.sq [⟨some 73, none, .bin .add .sc (.t 25) (.c (.int .i64 1))⟩,
        ⟨some 25, none, .mv false (.t 73)⟩])) is fr σ K := (rfl)
def C_route_Table_Cover_k6 (f_key_Cmp f_route_Table_Nodes : FuncId) : LCode := (.seq (.sq [⟨some 26, none, .bin .lss .sc (.t 25) (.t 24)⟩]) (.seq (.cond (.t 26) .skip (.exit 0)) (C_route_Table_Cover_k5 f_key_Cmp f_route_Table_Nodes)))
theorem u_C_route_Table_Cover_k6 {C : CallW} {P : Program} {rd : Bool} {is : List Item} {fr : Fr} {σ : St} {K : KC} (f_key_Cmp f_route_Table_Nodes : FuncId) : runC C P rd (C_route_Table_Cover_k6 f_key_Cmp f_route_Table_Nodes) is fr σ K = runC C P rd (.seq (.sq [⟨some 26, none, .bin .lss .sc (.t 25) (.t 24)⟩]) (.seq (.cond (.t 26) .skip (.exit 0)) (C_route_Table_Cover_k5 f_key_Cmp f_route_Table_Nodes))) is fr σ K := (rfl)
def C_route_Table_Cover_k7 (f_key_Cmp f_route_Table_Nodes : FuncId) : LCode := (.block 0 (.loop [true, false, false, false, true, true, false, true, true, false, false, false, false, false, false, false, false, false, false, false, false, false, false, false, true, true, false, false, false, false, false, false, false, false, false, false, false, false, false, false, false, false, false, false, false, false, false, false, false, false, false, false, false, false, false, false, false, false, false, false, false, false, false, false, false, false, false, false, false, false, false, false, false, false, false] (C_route_Table_Cover_k6 f_key_Cmp f_route_Table_Nodes)))
theorem u_C_route_Table_Cover_k7 {C : CallW} {P : Program} {rd : Bool} {is : List Item} {fr : Fr} {σ : St} {K : KC} (f_key_Cmp f_route_Table_Nodes : FuncId) : runC C P rd (C_route_Table_Cover_k7 f_key_Cmp f_route_Table_Nodes) is fr σ K = runC C P rd (.block 0 (.loop [true, false, false, false, true, true, false, true, true, false, false, false, false, false, false, false, false, false, false, false, false, false, false, false, true, true, false, false, false, false, false, false, false, false, false, false, false, false, false, false, false, false, false, false, false, false, false, false, false, false, false, false, false, false, false, false, false, false, false, false, false, false, false, false, false, false, false, false, false, false, false, false, false, false, false] (C_route_Table_Cover_k6 f_key_Cmp f_route_Table_Nodes))) is fr σ K := (rfl)
def C_route_Table_Cover_k8 (f_key_Cmp f_route_Table_Nodes : FuncId) : LCode := (.seq (.seq (.sq [⟨some 23, none, .mv false (.t 0)⟩,
    ⟨some 24, none, .call (.f f_route_Table_Nodes) [(.t 23)]⟩,
    ⟨some 25, none, .mv false (.c (.int .i64 0))⟩]) (C_route_Table_Cover_k7 f_key_Cmp f_route_Table_Nodes)) (.seq (.sq [⟨some 74, none, .mv true (.t 8)⟩,
    ⟨some 6, none, .mv true (.t 74)⟩]) .ret))
theorem u_C_route_Table_Cover_k8 {C : CallW} {P : Program} {rd : Bool} {is : List Item} {fr : Fr} {σ : St} {K : KC} (f_key_Cmp f_route_Table_Nodes : FuncId) : runC C P rd (C_route_Table_Cover_k8 f_key_Cmp f_route_Table_Nodes) is fr σ K = runC C P rd (.seq (.seq (.sq [⟨some 23, none, .mv false (.t 0)⟩,
    ⟨some 24, none, .call (.f f_route_Table_Nodes) [(.t 23)]⟩,
    ⟨some 25, none, .mv false (.c (.int .i64 0))⟩]) (C_route_Table_Cover_k7 f_key_Cmp f_route_Table_Nodes)) (.seq (.sq [⟨some 74, none, .mv true (.t 8)⟩,
    ⟨some 6, none, .mv true (.t 74)⟩]) .ret)) is fr σ K := (rfl)
def C_route_Table_Cover_k9 (f_key_Cmp f_route_Table_Nodes : FuncId) : LCode := (.seq (.seq (.sq [⟨some 15, none, .mv false (.t 7)⟩,
    ⟨some 16, none, .un .not (.t 15)⟩,
    ⟨some 17, none, .mv false (.t 16)⟩,
    ⟨some 18, some (17, true), .loadA 16 (.t 5)⟩,
    ⟨some 19, some (17, true), .loadA 16 (.t 4)⟩,
    ⟨some 20, some (17, true), .call (.f f_key_Cmp) [(.t 18), (.t 19)]⟩,
    ⟨some 21, some (17, true), .bin .leq .sc (.t 20) (.c (.int .i64 0))⟩,
    ⟨some 22, none, .pick (.t 17) (.t 21) (.c (.bool false))⟩]) (.cond (.t 22) (.seq (.sq [⟨some 6, none, .mv true (.c .nilS)⟩]) .ret) .skip)) (.seq (.sq [⟨some 8, none, .mv true (.c .nilS)⟩]) (C_route_Table_Cover_k8 f_key_Cmp f_route_Table_Nodes)))
theorem u_C_route_Table_Cover_k9 {C : CallW} {P : Program} {rd : Bool} {is : List Item} {fr : Fr} {σ : St} {K : KC} (f_key_Cmp f_route_Table_Nodes : FuncId) : runC C P rd (C_route_Table_Cover_k9 f_key_Cmp f_route_Table_Nodes) is fr σ K = runC C P rd (.seq (.seq (.sq [⟨some 15, none, .mv false (.t 7)⟩,
    ⟨some 16, none, .un .not (.t 15)⟩,
    ⟨some 17, none, .mv false (.t 16)⟩,
    ⟨some 18, some (17, true), .loadA 16 (.t 5)⟩,
    ⟨some 19, some (17, true), .loadA 16 (.t 4)⟩,
    ⟨some 20, some (17, true), .call (.f f_key_Cmp) [(.t 18), (.t 19)]⟩,
    ⟨some 21, some (17, true), .bin .leq .sc (.t 20) (.c (.int .i64 0))⟩,
    ⟨some 22, none, .pick (.t 17) (.t 21) (.c (.bool false))⟩]) (.cond (.t 22) (.seq (.sq [⟨some 6, none, .mv true (.c .nilS)⟩]) .ret) .skip)) (.seq (.sq [⟨some 8, none, .mv true (.c .nilS)⟩]) (C_route_Table_Cover_k8 f_key_Cmp f_route_Table_Nodes))) is fr σ K := (rfl)
def C_route_Table_Cover_k10 (f_key_Cmp f_route_Table_Nodes : FuncId) : LCode := (.seq (.sq [⟨some 12, none, .loadA 16 (.t 5)⟩,
    ⟨some 13, none, .build zk []⟩,
    ⟨some 14, none, .bin .eql (.leaf lk) (.t 12) (.t 13)⟩,
    ⟨some 7, none, .mv true (.t 14)⟩]) (C_route_Table_Cover_k9 f_key_Cmp f_route_Table_Nodes))
theorem u_C_route_Table_Cover_k10 {C : CallW} {P : Program} {rd : Bool} {is : List Item} {fr : Fr} {σ : St} {K : KC} (f_key_Cmp f_route_Table_Nodes : FuncId) : runC C P rd (C_route_Table_Cover_k10 f_key_Cmp f_route_Table_Nodes) is fr σ K = runC C P rd (.seq (.sq [⟨some 12, none, .loadA 16 (.t 5)⟩,
    ⟨some 13, none, .build zk []⟩,
    ⟨some 14, none, .bin .eql (.leaf lk) (.t 12) (.t 13)⟩,
    ⟨some 7, none, .mv true (.t 14)⟩]) (C_route_Table_Cover_k9 f_key_Cmp f_route_Table_Nodes)) is fr σ K := (rfl)
--U C_route_Table_Cover u_C_route_Table_Cover_k1, u_C_route_Table_Cover_k2, u_C_route_Table_Cover_k3, u_C_route_Table_Cover_k4, u_C_route_Table_Cover_k5, u_C_route_Table_Cover_k6, u_C_route_Table_Cover_k7, u_C_route_Table_Cover_k8, u_C_route_Table_Cover_k9, u_C_route_Table_Cover_k10
def C_route_Table_Cover (f_key_Cmp f_route_Table_Nodes : FuncId) : LFn :=
  ⟨75, [.t 6], (.seq (.sq [⟨some 4, none, .box false false (.t 1)⟩,
    ⟨some 5, none, .box false false (.t 2)⟩,
    ⟨some 6, none, .mv true (.c .nilS)⟩]) (C_route_Table_Cover_k10 f_key_Cmp f_route_Table_Nodes))⟩

def C_hourglasslaw17_k_k1 (f_hourglassref10_Of : FuncId) : LCode := (.seq (.sq [⟨some 6, none, .mv false (.t 0)⟩,
    ⟨some 7, none, .call (.f f_hourglassref10_Of) [(.t 6)]⟩,
    ⟨some 5, none, .mv false (.t 7)⟩,
    ⟨some 8, none, .ext (.t 5) 0⟩,
    ⟨some 9, none, .ext (.t 5) 1⟩,
    ⟨some 3, none, .alloc false zk⟩,
    ⟨none, none, .store 16 (.t 3) (.t 8)⟩,
    ⟨some 4, none, .mv true (.t 9)⟩]) (.seq (.sq [⟨some 10, none, .loadA 16 (.t 3)⟩,
    ⟨none, none, .store 16 (.t 2) (.t 10)⟩]) .ret))
theorem u_C_hourglasslaw17_k_k1 {C : CallW} {P : Program} {rd : Bool} {is : List Item} {fr : Fr} {σ : St} {K : KC} (f_hourglassref10_Of : FuncId) : runC C P rd (C_hourglasslaw17_k_k1 f_hourglassref10_Of) is fr σ K = runC C P rd (.seq (.sq [⟨some 6, none, .mv false (.t 0)⟩,
    ⟨some 7, none, .call (.f f_hourglassref10_Of) [(.t 6)]⟩,
    ⟨some 5, none, .mv false (.t 7)⟩,
    ⟨some 8, none, .ext (.t 5) 0⟩,
    ⟨some 9, none, .ext (.t 5) 1⟩,
    ⟨some 3, none, .alloc false zk⟩,
    ⟨none, none, .store 16 (.t 3) (.t 8)⟩,
    ⟨some 4, none, .mv true (.t 9)⟩]) (.seq (.sq [⟨some 10, none, .loadA 16 (.t 3)⟩,
    ⟨none, none, .store 16 (.t 2) (.t 10)⟩]) .ret)) is fr σ K := (rfl)
--U C_hourglasslaw17_k u_C_hourglasslaw17_k_k1
def C_hourglasslaw17_k (f_hourglassref10_Of : FuncId) : LFn :=
  ⟨11, [.many 2 16], (.seq (.sq [⟨some 2, none, .alloc false zk⟩]) (C_hourglasslaw17_k_k1 f_hourglassref10_Of))⟩

def C_hourglasslaw17_awake_k1 (f_hourglasslaw17_k f_route_New f_route_Table_Of f_route_Table_Nodes : FuncId) : LCode := (.seq (.sq [⟨some 9, none, .mv false (.t 2)⟩,
    ⟨some 10, none, .bin .eql .sc (.t 9) (.c (.int .i64 0))⟩,
    ⟨some 11, none, .mv false (.t 10)⟩,
    ⟨some 12, some (11, true), .mv false (.t 1)⟩,
    ⟨some 13, some (11, true), .bin .neq (.ref 0) (.t 12) (.c .nilP)⟩,
    ⟨some 14, none, .pick (.t 11) (.t 13) (.c (.bool false))⟩,
    ⟨some 15, none, .mv false (.t 14)⟩,
    ⟨some 16, some (15, true), .mv false (.t 1)⟩,
    ⟨some 17, some (15, true), .call (.f f_hourglasslaw17_k) [(.c (.str [97]))]⟩,
    ⟨some 18, some (15, true), .call (.f f_route_Table_Of) [(.t 16), (.t 17)]⟩,
    ⟨some 19, some (15, true), .bin .eql .sc (.t 18) (.c (.int .i64 0))⟩,
    ⟨some 20, none, .pick (.t 15) (.t 19) (.c (.bool false))⟩,
    ⟨some 21, none, .mv false (.t 20)⟩,
    ⟨some 22, some (21, true), .mv false (.t 1)⟩,
    ⟨some 23, some (21, true), .call (.f f_hourglasslaw17_k) [(.c (.str [109]))]⟩,
    ⟨some 24, some (21, true), .call (.f f_route_Table_Of) [(.t 22), (.t 23)]⟩,
    ⟨some 25, some (21, true), .bin .eql .sc (.t 24) (.c (.int .i64 1))⟩,
    ⟨some 26, none, .pick (.t 21) (.t 25) (.c (.bool false))⟩,
    ⟨some 27, none, .mv false (.t 26)⟩,
    ⟨some 28, some (27, true), .mv false (.t 1)⟩,
    ⟨some 29, some (27, true), .call (.f f_route_Table_Nodes) [(.t 28)]⟩,
    ⟨some 30, some (27, true), .bin .eql .sc (.t 29) (.c (.int .i64 2))⟩,
    ⟨some 31, none, .pick (.t 27) (.t 30) (.c (.bool false))⟩,
    ⟨some 0, none, .mv true (.t 31)⟩]) .ret)
theorem u_C_hourglasslaw17_awake_k1 {C : CallW} {P : Program} {rd : Bool} {is : List Item} {fr : Fr} {σ : St} {K : KC} (f_hourglasslaw17_k f_route_New f_route_Table_Of f_route_Table_Nodes : FuncId) : runC C P rd (C_hourglasslaw17_awake_k1 f_hourglasslaw17_k f_route_New f_route_Table_Of f_route_Table_Nodes) is fr σ K = runC C P rd (.seq (.sq [⟨some 9, none, .mv false (.t 2)⟩,
    ⟨some 10, none, .bin .eql .sc (.t 9) (.c (.int .i64 0))⟩,
    ⟨some 11, none, .mv false (.t 10)⟩,
    ⟨some 12, some (11, true), .mv false (.t 1)⟩,
    ⟨some 13, some (11, true), .bin .neq (.ref 0) (.t 12) (.c .nilP)⟩,
    ⟨some 14, none, .pick (.t 11) (.t 13) (.c (.bool false))⟩,
    ⟨some 15, none, .mv false (.t 14)⟩,
    ⟨some 16, some (15, true), .mv false (.t 1)⟩,
    ⟨some 17, some (15, true), .call (.f f_hourglasslaw17_k) [(.c (.str [97]))]⟩,
    ⟨some 18, some (15, true), .call (.f f_route_Table_Of) [(.t 16), (.t 17)]⟩,
    ⟨some 19, some (15, true), .bin .eql .sc (.t 18) (.c (.int .i64 0))⟩,
    ⟨some 20, none, .pick (.t 15) (.t 19) (.c (.bool false))⟩,
    ⟨some 21, none, .mv false (.t 20)⟩,
    ⟨some 22, some (21, true), .mv false (.t 1)⟩,
    ⟨some 23, some (21, true), .call (.f f_hourglasslaw17_k) [(.c (.str [109]))]⟩,
    ⟨some 24, some (21, true), .call (.f f_route_Table_Of) [(.t 22), (.t 23)]⟩,
    ⟨some 25, some (21, true), .bin .eql .sc (.t 24) (.c (.int .i64 1))⟩,
    ⟨some 26, none, .pick (.t 21) (.t 25) (.c (.bool false))⟩,
    ⟨some 27, none, .mv false (.t 26)⟩,
    ⟨some 28, some (27, true), .mv false (.t 1)⟩,
    ⟨some 29, some (27, true), .call (.f f_route_Table_Nodes) [(.t 28)]⟩,
    ⟨some 30, some (27, true), .bin .eql .sc (.t 29) (.c (.int .i64 2))⟩,
    ⟨some 31, none, .pick (.t 27) (.t 30) (.c (.bool false))⟩,
    ⟨some 0, none, .mv true (.t 31)⟩]) .ret) is fr σ K := (rfl)
def C_hourglasslaw17_awake_k2 (f_hourglasslaw17_k f_route_New f_route_Table_Of f_route_Table_Nodes : FuncId) : LCode := (.seq (.sq [⟨some 4, none, .call (.f f_hourglasslaw17_k) [(.c (.str [109]))]⟩,
    ⟨some 5, none, .bsl ⟨16, true, 16, (.agg zk)⟩ 1 [(0, (.t 4))]⟩,
    ⟨some 6, none, .call (.f f_route_New) [(.t 5)]⟩,
    ⟨some 3, none, .mv false (.t 6)⟩,
    ⟨some 7, none, .ext (.t 3) 0⟩,
    ⟨some 8, none, .ext (.t 3) 1⟩,
    ⟨some 1, none, .mv true (.t 7)⟩,
    ⟨some 2, none, .mv true (.t 8)⟩]) (C_hourglasslaw17_awake_k1 f_hourglasslaw17_k f_route_New f_route_Table_Of f_route_Table_Nodes))
theorem u_C_hourglasslaw17_awake_k2 {C : CallW} {P : Program} {rd : Bool} {is : List Item} {fr : Fr} {σ : St} {K : KC} (f_hourglasslaw17_k f_route_New f_route_Table_Of f_route_Table_Nodes : FuncId) : runC C P rd (C_hourglasslaw17_awake_k2 f_hourglasslaw17_k f_route_New f_route_Table_Of f_route_Table_Nodes) is fr σ K = runC C P rd (.seq (.sq [⟨some 4, none, .call (.f f_hourglasslaw17_k) [(.c (.str [109]))]⟩,
    ⟨some 5, none, .bsl ⟨16, true, 16, (.agg zk)⟩ 1 [(0, (.t 4))]⟩,
    ⟨some 6, none, .call (.f f_route_New) [(.t 5)]⟩,
    ⟨some 3, none, .mv false (.t 6)⟩,
    ⟨some 7, none, .ext (.t 3) 0⟩,
    ⟨some 8, none, .ext (.t 3) 1⟩,
    ⟨some 1, none, .mv true (.t 7)⟩,
    ⟨some 2, none, .mv true (.t 8)⟩]) (C_hourglasslaw17_awake_k1 f_hourglasslaw17_k f_route_New f_route_Table_Of f_route_Table_Nodes)) is fr σ K := (rfl)
--U C_hourglasslaw17_awake u_C_hourglasslaw17_awake_k1, u_C_hourglasslaw17_awake_k2
def C_hourglasslaw17_awake (f_hourglasslaw17_k f_route_New f_route_Table_Of f_route_Table_Nodes : FuncId) : LFn :=
  ⟨32, [.t 0], (.seq (.sq [⟨some 0, none, .mv true (.c (.bool false))⟩]) (C_hourglasslaw17_awake_k2 f_hourglasslaw17_k f_route_New f_route_Table_Of f_route_Table_Nodes))⟩

def C_hourglasslaw17_long_k1 : LCode := (.sq [⟨some 11, none, .mv false (.t 3)⟩,
        ⟨some 12, none, .bin .add .sc (.t 11) (.c (.int .i64 1))⟩,
        ⟨some 3, none, .mv true (.t 12)⟩])
theorem u_C_hourglasslaw17_long_k1 {C : CallW} {P : Program} {rd : Bool} {is : List Item} {fr : Fr} {σ : St} {K : KC} : runC C P rd C_hourglasslaw17_long_k1 is fr σ K = runC C P rd (.sq [⟨some 11, none, .mv false (.t 3)⟩,
        ⟨some 12, none, .bin .add .sc (.t 11) (.c (.int .i64 1))⟩,
        ⟨some 3, none, .mv true (.t 12)⟩]) is fr σ K := (rfl)
def C_hourglasslaw17_long_k2 : LCode := (.seq (.block 1 (.seq (.sq [⟨some 13, none, .mv false (.t 0)⟩,
          ⟨some 14, none, .mv false (.t 3)⟩,
          ⟨some 15, none, .ixa (.sl 18) (.t 13) (.t 14)⟩,
          ⟨some 16, none, .shift 16 (.t 15)⟩,
          ⟨some 17, none, .load1 false (.t 16)⟩,
          ⟨some 18, none, .len .str (.t 17)⟩,
          ⟨some 19, none, .bin .gtr .sc (.t 18) (.c (.int .i64 250))⟩]) (.cond (.t 19) (.seq (.sq [⟨some 2, none, .mv true (.c (.bool true))⟩]) .ret) .skip))) C_hourglasslaw17_long_k1)
theorem u_C_hourglasslaw17_long_k2 {C : CallW} {P : Program} {rd : Bool} {is : List Item} {fr : Fr} {σ : St} {K : KC} : runC C P rd C_hourglasslaw17_long_k2 is fr σ K = runC C P rd (.seq (.block 1 (.seq (.sq [⟨some 13, none, .mv false (.t 0)⟩,
          ⟨some 14, none, .mv false (.t 3)⟩,
          ⟨some 15, none, .ixa (.sl 18) (.t 13) (.t 14)⟩,
          ⟨some 16, none, .shift 16 (.t 15)⟩,
          ⟨some 17, none, .load1 false (.t 16)⟩,
          ⟨some 18, none, .len .str (.t 17)⟩,
          ⟨some 19, none, .bin .gtr .sc (.t 18) (.c (.int .i64 250))⟩]) (.cond (.t 19) (.seq (.sq [⟨some 2, none, .mv true (.c (.bool true))⟩]) .ret) .skip))) C_hourglasslaw17_long_k1) is fr σ K := (rfl)
def C_hourglasslaw17_long_k3 : LCode := (.seq (.seq (.sq [⟨some 7, none, .mv false (.t 3)⟩,
        ⟨some 8, none, .mv false (.t 0)⟩,
        ⟨some 9, none, .len .sl (.t 8)⟩,
        ⟨some 10, none, .bin .lss .sc (.t 7) (.t 9)⟩]) (.cond (.t 10) .skip (.exit 0))) C_hourglasslaw17_long_k2)
theorem u_C_hourglasslaw17_long_k3 {C : CallW} {P : Program} {rd : Bool} {is : List Item} {fr : Fr} {σ : St} {K : KC} : runC C P rd C_hourglasslaw17_long_k3 is fr σ K = runC C P rd (.seq (.seq (.sq [⟨some 7, none, .mv false (.t 3)⟩,
        ⟨some 8, none, .mv false (.t 0)⟩,
        ⟨some 9, none, .len .sl (.t 8)⟩,
        ⟨some 10, none, .bin .lss .sc (.t 7) (.t 9)⟩]) (.cond (.t 10) .skip (.exit 0))) C_hourglasslaw17_long_k2) is fr σ K := (rfl)
def C_hourglasslaw17_long_k4 : LCode := (.block 0 (.loop [true, false, false, true, false, false, false, false, false, false, false, false, false, false, false, false, false, false, false, false] C_hourglasslaw17_long_k3))
theorem u_C_hourglasslaw17_long_k4 {C : CallW} {P : Program} {rd : Bool} {is : List Item} {fr : Fr} {σ : St} {K : KC} : runC C P rd C_hourglasslaw17_long_k4 is fr σ K = runC C P rd (.block 0 (.loop [true, false, false, true, false, false, false, false, false, false, false, false, false, false, false, false, false, false, false, false] C_hourglasslaw17_long_k3)) is fr σ K := (rfl)
def C_hourglasslaw17_long_k5 : LCode := (.seq (.seq (.sq [⟨some 3, none, .mv true (.c (.int .i64 0))⟩]) C_hourglasslaw17_long_k4) (.seq (.sq [⟨some 2, none, .mv true (.c (.bool false))⟩]) .ret))
theorem u_C_hourglasslaw17_long_k5 {C : CallW} {P : Program} {rd : Bool} {is : List Item} {fr : Fr} {σ : St} {K : KC} : runC C P rd C_hourglasslaw17_long_k5 is fr σ K = runC C P rd (.seq (.seq (.sq [⟨some 3, none, .mv true (.c (.int .i64 0))⟩]) C_hourglasslaw17_long_k4) (.seq (.sq [⟨some 2, none, .mv true (.c (.bool false))⟩]) .ret)) is fr σ K := (rfl)
def C_hourglasslaw17_long_k6 : LCode := (.seq (.seq (.sq [⟨some 4, none, .mv false (.t 0)⟩,
    ⟨some 5, none, .len .sl (.t 4)⟩,
    ⟨some 6, none, .bin .gtr .sc (.t 5) (.c (.int .i64 20))⟩]) (.cond (.t 6) (.seq (.sq [⟨some 2, none, .mv true (.c (.bool true))⟩]) .ret) .skip)) C_hourglasslaw17_long_k5)
theorem u_C_hourglasslaw17_long_k6 {C : CallW} {P : Program} {rd : Bool} {is : List Item} {fr : Fr} {σ : St} {K : KC} : runC C P rd C_hourglasslaw17_long_k6 is fr σ K = runC C P rd (.seq (.seq (.sq [⟨some 4, none, .mv false (.t 0)⟩,
    ⟨some 5, none, .len .sl (.t 4)⟩,
    ⟨some 6, none, .bin .gtr .sc (.t 5) (.c (.int .i64 20))⟩]) (.cond (.t 6) (.seq (.sq [⟨some 2, none, .mv true (.c (.bool true))⟩]) .ret) .skip)) C_hourglasslaw17_long_k5) is fr σ K := (rfl)
--U C_hourglasslaw17_long u_C_hourglasslaw17_long_k1, u_C_hourglasslaw17_long_k2, u_C_hourglasslaw17_long_k3, u_C_hourglasslaw17_long_k4, u_C_hourglasslaw17_long_k5, u_C_hourglasslaw17_long_k6
def C_hourglasslaw17_long : LFn :=
  ⟨20, [.t 2], (.seq (.sq [⟨some 2, none, .mv true (.c (.bool false))⟩]) C_hourglasslaw17_long_k6)⟩

def C_hourglasslaw17_RouteSplits_k1 (f_hourglasslaw17_awake f_hourglasslaw17_long f_route_New f_route_Table_Split f_route_Table_Of f_hourglassref10_Good : FuncId) : LCode := (.seq (.seq (.sq [⟨some 49, none, .mv false (.t 1)⟩,
            ⟨some 50, none, .mv false (.t 9)⟩,
            ⟨some 51, none, .ixa (.sl 18) (.t 49) (.t 50)⟩,
            ⟨some 52, none, .shift 0 (.t 51)⟩,
            ⟨some 53, none, .loadA 16 (.t 52)⟩,
            ⟨some 54, none, .call (.f f_hourglassref10_Good) [(.t 53)]⟩]) (.cond (.t 54) (.seq (.sq [⟨some 4, none, .mv true (.c (.bool false))⟩]) .ret) .skip)) (.exit 1))
theorem u_C_hourglasslaw17_RouteSplits_k1 {C : CallW} {P : Program} {rd : Bool} {is : List Item} {fr : Fr} {σ : St} {K : KC} (f_hourglasslaw17_awake f_hourglasslaw17_long f_route_New f_route_Table_Split f_route_Table_Of f_hourglassref10_Good : FuncId) : runC C P rd (C_hourglasslaw17_RouteSplits_k1 f_hourglasslaw17_awake f_hourglasslaw17_long f_route_New f_route_Table_Split f_route_Table_Of f_hourglassref10_Good) is fr σ K = runC C P rd (.seq (.seq (.sq [⟨some 49, none, .mv false (.t 1)⟩,
            ⟨some 50, none, .mv false (.t 9)⟩,
            ⟨some 51, none, .ixa (.sl 18) (.t 49) (.t 50)⟩,
            ⟨some 52, none, .shift 0 (.t 51)⟩,
            ⟨some 53, none, .loadA 16 (.t 52)⟩,
            ⟨some 54, none, .call (.f f_hourglassref10_Good) [(.t 53)]⟩]) (.cond (.t 54) (.seq (.sq [⟨some 4, none, .mv true (.c (.bool false))⟩]) .ret) .skip)) (.exit 1)) is fr σ K := (rfl)
def C_hourglasslaw17_RouteSplits_k2 (f_hourglasslaw17_awake f_hourglasslaw17_long f_route_New f_route_Table_Split f_route_Table_Of f_hourglassref10_Good : FuncId) : LCode := (.cond (.t 48) (C_hourglasslaw17_RouteSplits_k1 f_hourglasslaw17_awake f_hourglasslaw17_long f_route_New f_route_Table_Split f_route_Table_Of f_hourglassref10_Good) .skip)
theorem u_C_hourglasslaw17_RouteSplits_k2 {C : CallW} {P : Program} {rd : Bool} {is : List Item} {fr : Fr} {σ : St} {K : KC} (f_hourglasslaw17_awake f_hourglasslaw17_long f_route_New f_route_Table_Split f_route_Table_Of f_hourglassref10_Good : FuncId) : runC C P rd (C_hourglasslaw17_RouteSplits_k2 f_hourglasslaw17_awake f_hourglasslaw17_long f_route_New f_route_Table_Split f_route_Table_Of f_hourglassref10_Good) is fr σ K = runC C P rd (.cond (.t 48) (C_hourglasslaw17_RouteSplits_k1 f_hourglasslaw17_awake f_hourglasslaw17_long f_route_New f_route_Table_Split f_route_Table_Of f_hourglassref10_Good) .skip) is fr σ K := (rfl)
def C_hourglasslaw17_RouteSplits_k3 (f_hourglasslaw17_awake f_hourglasslaw17_long f_route_New f_route_Table_Split f_route_Table_Of f_hourglassref10_Good : FuncId) : LCode := (.sq [⟨some 88, none, .mv false (.t 8)⟩,
          ⟨some 89, none, .mv false (.t 10)⟩,
          ⟨some 90, none, .ixa (.sl 1) (.t 88) (.t 89)⟩,
          ⟨some 91, none, .load1 false (.t 90)⟩,
          ⟨some 92, none, .bin .add .sc (.t 91) (.c (.int .i64 1))⟩,
          ⟨some 93, none, .ixa (.sl 1) (.t 88) (.t 89)⟩,
          ⟨none, none, .store 1 (.t 93) (.t 92)⟩])
theorem u_C_hourglasslaw17_RouteSplits_k3 {C : CallW} {P : Program} {rd : Bool} {is : List Item} {fr : Fr} {σ : St} {K : KC} (f_hourglasslaw17_awake f_hourglasslaw17_long f_route_New f_route_Table_Split f_route_Table_Of f_hourglassref10_Good : FuncId) : runC C P rd (C_hourglasslaw17_RouteSplits_k3 f_hourglasslaw17_awake f_hourglasslaw17_long f_route_New f_route_Table_Split f_route_Table_Of f_hourglassref10_Good) is fr σ K = runC C P rd (.sq [⟨some 88, none, .mv false (.t 8)⟩,
          ⟨some 89, none, .mv false (.t 10)⟩,
          ⟨some 90, none, .ixa (.sl 1) (.t 88) (.t 89)⟩,
          ⟨some 91, none, .load1 false (.t 90)⟩,
          ⟨some 92, none, .bin .add .sc (.t 91) (.c (.int .i64 1))⟩,
          ⟨some 93, none, .ixa (.sl 1) (.t 88) (.t 89)⟩,
          ⟨none, none, .store 1 (.t 93) (.t 92)⟩]) is fr σ K := (rfl)
def C_hourglasslaw17_RouteSplits_k4 (f_hourglasslaw17_awake f_hourglasslaw17_long f_route_New f_route_Table_Split f_route_Table_Of f_hourglassref10_Good : FuncId) : LCode := (.seq (.seq (.tree (.rd ⟨some 55, none, .mv false (.t 10)⟩ 0 false (.rd ⟨some 56, none, .mv false (.t 7)⟩ 1 false (.rd ⟨some 57, none, .len .sl (.t 56)⟩ 2 false (.rd ⟨some 58, none, .bin .geq .sc (.t 55) (.t 57)⟩ 3 false (.rd ⟨some 59, none, .mv false (.t 58)⟩ 4 false (.rd ⟨some 60, some (59, false), .mv false (.t 8)⟩ 5 false (.rd ⟨some 61, some (59, false), .mv false (.t 10)⟩ 6 false (.rd ⟨some 62, some (59, false), .ixa (.sl 1) (.t 60) (.t 61)⟩ 7 false (.rd ⟨some 63, some (59, false), .load1 false (.t 62)⟩ 8 false (.rd ⟨some 64, some (59, false), .mv false (.t 7)⟩ 9 false (.rd ⟨some 65, some (59, false), .mv false (.t 10)⟩ 10 false (.rd ⟨some 66, some (59, false), .ixa (.sl 1) (.t 64) (.t 65)⟩ 11 false (.rd ⟨some 67, some (59, false), .load1 false (.t 66)⟩ 12 false (.rd ⟨some 68, some (59, false), .len .sl (.t 67)⟩ 13 false (.rd ⟨some 69, some (59, false), .bin .geq .sc (.t 63) (.t 68)⟩ 14 false (.rd ⟨some 70, none, .pick (.t 59) (.c (.bool true)) (.t 69)⟩ 15 false (.rd ⟨some 71, none, .mv false (.t 70)⟩ 16 false (.rd ⟨some 72, some (71, false), .mv false (.t 7)⟩ 17 false (.rd ⟨some 73, some (71, false), .mv false (.t 10)⟩ 18 false (.rd ⟨some 74, some (71, false), .ixa (.sl 1) (.t 72) (.t 73)⟩ 19 false (.rd ⟨some 75, some (71, false), .load1 false (.t 74)⟩ 20 false (.rd ⟨some 76, some (71, false), .mv false (.t 8)⟩ 21 false (.rd ⟨some 77, some (71, false), .mv false (.t 10)⟩ 22 false (.rd ⟨some 78, some (71, false), .ixa (.sl 1) (.t 76) (.t 77)⟩ 23 false (.rd ⟨some 79, some (71, false), .load1 false (.t 78)⟩ 24 false (.rd ⟨some 80, some (71, false), .ixa (.sl 18) (.t 75) (.t 79)⟩ 25 false (.rd ⟨some 81, some (71, false), .loadA 18 (.t 80)⟩ 26 false (.rd ⟨some 82, some (71, false), .mv false (.t 1)⟩ 27 false (.rd ⟨some 83, some (71, false), .mv false (.t 9)⟩ 28 false (.rd ⟨some 84, some (71, false), .ixa (.sl 18) (.t 82) (.t 83)⟩ 29 false (.rd ⟨some 85, some (71, false), .loadA 18 (.t 84)⟩ 30 false (.rd ⟨some 86, some (71, false), .bin .neq (.leaf (lk ++ [.str, .bool])) (.t 81) (.t 85)⟩ 31 false (.rd ⟨some 87, none, .pick (.t 71) (.c (.bool true)) (.t 86)⟩ 32 false .done)))))))))))))))))))))))))))))))))) (.cond (.t 87) (.seq (.sq [⟨some 4, none, .mv true (.c (.bool false))⟩]) .ret) .skip)) (C_hourglasslaw17_RouteSplits_k3 f_hourglasslaw17_awake f_hourglasslaw17_long f_route_New f_route_Table_Split f_route_Table_Of f_hourglassref10_Good))
theorem u_C_hourglasslaw17_RouteSplits_k4 {C : CallW} {P : Program} {rd : Bool} {is : List Item} {fr : Fr} {σ : St} {K : KC} (f_hourglasslaw17_awake f_hourglasslaw17_long f_route_New f_route_Table_Split f_route_Table_Of f_hourglassref10_Good : FuncId) : runC C P rd (C_hourglasslaw17_RouteSplits_k4 f_hourglasslaw17_awake f_hourglasslaw17_long f_route_New f_route_Table_Split f_route_Table_Of f_hourglassref10_Good) is fr σ K = runC C P rd (.seq (.seq (.tree (.rd ⟨some 55, none, .mv false (.t 10)⟩ 0 false (.rd ⟨some 56, none, .mv false (.t 7)⟩ 1 false (.rd ⟨some 57, none, .len .sl (.t 56)⟩ 2 false (.rd ⟨some 58, none, .bin .geq .sc (.t 55) (.t 57)⟩ 3 false (.rd ⟨some 59, none, .mv false (.t 58)⟩ 4 false (.rd ⟨some 60, some (59, false), .mv false (.t 8)⟩ 5 false (.rd ⟨some 61, some (59, false), .mv false (.t 10)⟩ 6 false (.rd ⟨some 62, some (59, false), .ixa (.sl 1) (.t 60) (.t 61)⟩ 7 false (.rd ⟨some 63, some (59, false), .load1 false (.t 62)⟩ 8 false (.rd ⟨some 64, some (59, false), .mv false (.t 7)⟩ 9 false (.rd ⟨some 65, some (59, false), .mv false (.t 10)⟩ 10 false (.rd ⟨some 66, some (59, false), .ixa (.sl 1) (.t 64) (.t 65)⟩ 11 false (.rd ⟨some 67, some (59, false), .load1 false (.t 66)⟩ 12 false (.rd ⟨some 68, some (59, false), .len .sl (.t 67)⟩ 13 false (.rd ⟨some 69, some (59, false), .bin .geq .sc (.t 63) (.t 68)⟩ 14 false (.rd ⟨some 70, none, .pick (.t 59) (.c (.bool true)) (.t 69)⟩ 15 false (.rd ⟨some 71, none, .mv false (.t 70)⟩ 16 false (.rd ⟨some 72, some (71, false), .mv false (.t 7)⟩ 17 false (.rd ⟨some 73, some (71, false), .mv false (.t 10)⟩ 18 false (.rd ⟨some 74, some (71, false), .ixa (.sl 1) (.t 72) (.t 73)⟩ 19 false (.rd ⟨some 75, some (71, false), .load1 false (.t 74)⟩ 20 false (.rd ⟨some 76, some (71, false), .mv false (.t 8)⟩ 21 false (.rd ⟨some 77, some (71, false), .mv false (.t 10)⟩ 22 false (.rd ⟨some 78, some (71, false), .ixa (.sl 1) (.t 76) (.t 77)⟩ 23 false (.rd ⟨some 79, some (71, false), .load1 false (.t 78)⟩ 24 false (.rd ⟨some 80, some (71, false), .ixa (.sl 18) (.t 75) (.t 79)⟩ 25 false (.rd ⟨some 81, some (71, false), .loadA 18 (.t 80)⟩ 26 false (.rd ⟨some 82, some (71, false), .mv false (.t 1)⟩ 27 false (.rd ⟨some 83, some (71, false), .mv false (.t 9)⟩ 28 false (.rd ⟨some 84, some (71, false), .ixa (.sl 18) (.t 82) (.t 83)⟩ 29 false (.rd ⟨some 85, some (71, false), .loadA 18 (.t 84)⟩ 30 false (.rd ⟨some 86, some (71, false), .bin .neq (.leaf (lk ++ [.str, .bool])) (.t 81) (.t 85)⟩ 31 false (.rd ⟨some 87, none, .pick (.t 71) (.c (.bool true)) (.t 86)⟩ 32 false .done)))))))))))))))))))))))))))))))))) (.cond (.t 87) (.seq (.sq [⟨some 4, none, .mv true (.c (.bool false))⟩]) .ret) .skip)) (C_hourglasslaw17_RouteSplits_k3 f_hourglasslaw17_awake f_hourglasslaw17_long f_route_New f_route_Table_Split f_route_Table_Of f_hourglassref10_Good)) is fr σ K := (rfl)
def C_hourglasslaw17_RouteSplits_k5 (f_hourglasslaw17_awake f_hourglasslaw17_long f_route_New f_route_Table_Split f_route_Table_Of f_hourglassref10_Good : FuncId) : LCode := (.seq (.seq (.sq [⟨some 47, none, .mv false (.t 10)⟩,
          ⟨some 48, none, .bin .lss .sc (.t 47) (.c (.int .i64 0))⟩]) (C_hourglasslaw17_RouteSplits_k2 f_hourglasslaw17_awake f_hourglasslaw17_long f_route_New f_route_Table_Split f_route_Table_Of f_hourglassref10_Good)) (C_hourglasslaw17_RouteSplits_k4 f_hourglasslaw17_awake f_hourglasslaw17_long f_route_New f_route_Table_Split f_route_Table_Of f_hourglassref10_Good))
theorem u_C_hourglasslaw17_RouteSplits_k5 {C : CallW} {P : Program} {rd : Bool} {is : List Item} {fr : Fr} {σ : St} {K : KC} (f_hourglasslaw17_awake f_hourglasslaw17_long f_route_New f_route_Table_Split f_route_Table_Of f_hourglassref10_Good : FuncId) : runC C P rd (C_hourglasslaw17_RouteSplits_k5 f_hourglasslaw17_awake f_hourglasslaw17_long f_route_New f_route_Table_Split f_route_Table_Of f_hourglassref10_Good) is fr σ K = runC C P rd (.seq (.seq (.sq [⟨some 47, none, .mv false (.t 10)⟩,
          ⟨some 48, none, .bin .lss .sc (.t 47) (.c (.int .i64 0))⟩]) (C_hourglasslaw17_RouteSplits_k2 f_hourglasslaw17_awake f_hourglasslaw17_long f_route_New f_route_Table_Split f_route_Table_Of f_hourglassref10_Good)) (C_hourglasslaw17_RouteSplits_k4 f_hourglasslaw17_awake f_hourglasslaw17_long f_route_New f_route_Table_Split f_route_Table_Of f_hourglassref10_Good)) is fr σ K := (rfl)
def C_hourglasslaw17_RouteSplits_k6 (f_hourglasslaw17_awake f_hourglasslaw17_long f_route_New f_route_Table_Split f_route_Table_Of f_hourglassref10_Good : FuncId) : LCode := (.sq [⟨some 38, none, .mv false (.t 9)⟩,
        ⟨some 39, none, .bin .add .sc (.t 38) (.c (.int .i64 1))⟩,
        ⟨some 9, none, .mv true (.t 39)⟩])
theorem u_C_hourglasslaw17_RouteSplits_k6 {C : CallW} {P : Program} {rd : Bool} {is : List Item} {fr : Fr} {σ : St} {K : KC} (f_hourglasslaw17_awake f_hourglasslaw17_long f_route_New f_route_Table_Split f_route_Table_Of f_hourglassref10_Good : FuncId) : runC C P rd (C_hourglasslaw17_RouteSplits_k6 f_hourglasslaw17_awake f_hourglasslaw17_long f_route_New f_route_Table_Split f_route_Table_Of f_hourglassref10_Good) is fr σ K = runC C P rd (.sq [⟨some 38, none, .mv false (.t 9)⟩,
        ⟨some 39, none, .bin .add .sc (.t 38) (.c (.int .i64 1))⟩,
        ⟨some 9, none, .mv true (.t 39)⟩]) is fr σ K := (rfl)
def C_hourglasslaw17_RouteSplits_k7 (f_hourglasslaw17_awake f_hourglasslaw17_long f_route_New f_route_Table_Split f_route_Table_Of f_hourglassref10_Good : FuncId) : LCode := (.seq (.block 1 (.seq (.sq [⟨some 40, none, .mv false (.t 5)⟩,
          ⟨some 41, none, .mv false (.t 1)⟩,
          ⟨some 42, none, .mv false (.t 9)⟩,
          ⟨some 43, none, .ixa (.sl 18) (.t 41) (.t 42)⟩,
          ⟨some 44, none, .shift 0 (.t 43)⟩,
          ⟨some 45, none, .loadA 16 (.t 44)⟩,
          ⟨some 46, none, .call (.f f_route_Table_Of) [(.t 40), (.t 45)]⟩,
          ⟨some 10, none, .mv true (.t 46)⟩]) (C_hourglasslaw17_RouteSplits_k5 f_hourglasslaw17_awake f_hourglasslaw17_long f_route_New f_route_Table_Split f_route_Table_Of f_hourglassref10_Good))) (C_hourglasslaw17_RouteSplits_k6 f_hourglasslaw17_awake f_hourglasslaw17_long f_route_New f_route_Table_Split f_route_Table_Of f_hourglassref10_Good))
theorem u_C_hourglasslaw17_RouteSplits_k7 {C : CallW} {P : Program} {rd : Bool} {is : List Item} {fr : Fr} {σ : St} {K : KC} (f_hourglasslaw17_awake f_hourglasslaw17_long f_route_New f_route_Table_Split f_route_Table_Of f_hourglassref10_Good : FuncId) : runC C P rd (C_hourglasslaw17_RouteSplits_k7 f_hourglasslaw17_awake f_hourglasslaw17_long f_route_New f_route_Table_Split f_route_Table_Of f_hourglassref10_Good) is fr σ K = runC C P rd (.seq (.block 1 (.seq (.sq [⟨some 40, none, .mv false (.t 5)⟩,
          ⟨some 41, none, .mv false (.t 1)⟩,
          ⟨some 42, none, .mv false (.t 9)⟩,
          ⟨some 43, none, .ixa (.sl 18) (.t 41) (.t 42)⟩,
          ⟨some 44, none, .shift 0 (.t 43)⟩,
          ⟨some 45, none, .loadA 16 (.t 44)⟩,
          ⟨some 46, none, .call (.f f_route_Table_Of) [(.t 40), (.t 45)]⟩,
          ⟨some 10, none, .mv true (.t 46)⟩]) (C_hourglasslaw17_RouteSplits_k5 f_hourglasslaw17_awake f_hourglasslaw17_long f_route_New f_route_Table_Split f_route_Table_Of f_hourglassref10_Good))) (C_hourglasslaw17_RouteSplits_k6 f_hourglasslaw17_awake f_hourglasslaw17_long f_route_New f_route_Table_Split f_route_Table_Of f_hourglassref10_Good)) is fr σ K := (rfl)
def C_hourglasslaw17_RouteSplits_k8 (f_hourglasslaw17_awake f_hourglasslaw17_long f_route_New f_route_Table_Split f_route_Table_Of f_hourglassref10_Good : FuncId) : LCode := (.seq (.seq (.sq [⟨some 34, none, .mv false (.t 9)⟩,
        ⟨some 35, none, .mv false (.t 1)⟩,
        ⟨some 36, none, .len .sl (.t 35)⟩,
        ⟨some 37, none, .bin .lss .sc (.t 34) (.t 36)⟩]) (.cond (.t 37) .skip (.exit 0))) (C_hourglasslaw17_RouteSplits_k7 f_hourglasslaw17_awake f_hourglasslaw17_long f_route_New f_route_Table_Split f_route_Table_Of f_hourglassref10_Good))
theorem u_C_hourglasslaw17_RouteSplits_k8 {C : CallW} {P : Program} {rd : Bool} {is : List Item} {fr : Fr} {σ : St} {K : KC} (f_hourglasslaw17_awake f_hourglasslaw17_long f_route_New f_route_Table_Split f_route_Table_Of f_hourglassref10_Good : FuncId) : runC C P rd (C_hourglasslaw17_RouteSplits_k8 f_hourglasslaw17_awake f_hourglasslaw17_long f_route_New f_route_Table_Split f_route_Table_Of f_hourglassref10_Good) is fr σ K = runC C P rd (.seq (.seq (.sq [⟨some 34, none, .mv false (.t 9)⟩,
        ⟨some 35, none, .mv false (.t 1)⟩,
        ⟨some 36, none, .len .sl (.t 35)⟩,
        ⟨some 37, none, .bin .lss .sc (.t 34) (.t 36)⟩]) (.cond (.t 37) .skip (.exit 0))) (C_hourglasslaw17_RouteSplits_k7 f_hourglasslaw17_awake f_hourglasslaw17_long f_route_New f_route_Table_Split f_route_Table_Of f_hourglassref10_Good)) is fr σ K := (rfl)
def C_hourglasslaw17_RouteSplits_k9 (f_hourglasslaw17_awake f_hourglasslaw17_long f_route_New f_route_Table_Split f_route_Table_Of f_hourglassref10_Good : FuncId) : LCode := (.block 0 (.loop [false, true, false, false, false, true, false, true, true, true, false, false, false, false, false, false, false, false, false, false, false, false, false, false, false, false, false, false, false, false, false, false, false, false, false, false, false, false, false, false, false, false, false, false, false, false, false, false, false, false, false, false, false, false, false, false, false, false, false, false, false, false, false, false, false, false, false, false, false, false, false, false, false, false, false, false, false, false, false, false, false, false, false, false, false, false, false, false, false, false, false, false, false, false, false, false, false, false, false, false, false, false, false, false, false, false, false, false, false, false] (C_hourglasslaw17_RouteSplits_k8 f_hourglasslaw17_awake f_hourglasslaw17_long f_route_New f_route_Table_Split f_route_Table_Of f_hourglassref10_Good)))
theorem u_C_hourglasslaw17_RouteSplits_k9 {C : CallW} {P : Program} {rd : Bool} {is : List Item} {fr : Fr} {σ : St} {K : KC} (f_hourglasslaw17_awake f_hourglasslaw17_long f_route_New f_route_Table_Split f_route_Table_Of f_hourglassref10_Good : FuncId) : runC C P rd (C_hourglasslaw17_RouteSplits_k9 f_hourglasslaw17_awake f_hourglasslaw17_long f_route_New f_route_Table_Split f_route_Table_Of f_hourglassref10_Good) is fr σ K = runC C P rd (.block 0 (.loop [false, true, false, false, false, true, false, true, true, true, false, false, false, false, false, false, false, false, false, false, false, false, false, false, false, false, false, false, false, false, false, false, false, false, false, false, false, false, false, false, false, false, false, false, false, false, false, false, false, false, false, false, false, false, false, false, false, false, false, false, false, false, false, false, false, false, false, false, false, false, false, false, false, false, false, false, false, false, false, false, false, false, false, false, false, false, false, false, false, false, false, false, false, false, false, false, false, false, false, false, false, false, false, false, false, false, false, false, false, false] (C_hourglasslaw17_RouteSplits_k8 f_hourglasslaw17_awake f_hourglasslaw17_long f_route_New f_route_Table_Split f_route_Table_Of f_hourglassref10_Good))) is fr σ K := (rfl)
def C_hourglasslaw17_RouteSplits_k10 (f_hourglasslaw17_awake f_hourglasslaw17_long f_route_New f_route_Table_Split f_route_Table_Of f_hourglassref10_Good : FuncId) : LCode := (.sq [⟨some 98, none, .mv false (.t 11)⟩,
        ⟨some 99, none, .bin .add .sc (.t 98) (.c (.int .i64 1))⟩,
        ⟨some 11, none, .mv true (.t 99)⟩])
theorem u_C_hourglasslaw17_RouteSplits_k10 {C : CallW} {P : Program} {rd : Bool} {is : List Item} {fr : Fr} {σ : St} {K : KC} (f_hourglasslaw17_awake f_hourglasslaw17_long f_route_New f_route_Table_Split f_route_Table_Of f_hourglassref10_Good : FuncId) : runC C P rd (C_hourglasslaw17_RouteSplits_k10 f_hourglasslaw17_awake f_hourglasslaw17_long f_route_New f_route_Table_Split f_route_Table_Of f_hourglassref10_Good) is fr σ K = runC C P rd (.sq [⟨some 98, none, .mv false (.t 11)⟩,
        ⟨some 99, none, .bin .add .sc (.t 98) (.c (.int .i64 1))⟩,
        ⟨some 11, none, .mv true (.t 99)⟩]) is fr σ K := (rfl)
def C_hourglasslaw17_RouteSplits_k11 (f_hourglasslaw17_awake f_hourglasslaw17_long f_route_New f_route_Table_Split f_route_Table_Of f_hourglassref10_Good : FuncId) : LCode := (.seq (.block 3 (.seq (.tree (.rd ⟨some 100, none, .mv false (.t 8)⟩ 0 false (.rd ⟨some 101, none, .mv false (.t 11)⟩ 1 false (.rd ⟨some 102, none, .ixa (.sl 1) (.t 100) (.t 101)⟩ 2 false (.rd ⟨some 103, none, .load1 false (.t 102)⟩ 3 false (.rd ⟨some 104, none, .mv false (.t 7)⟩ 4 false (.rd ⟨some 105, none, .mv false (.t 11)⟩ 5 false (.rd ⟨some 106, none, .ixa (.sl 1) (.t 104) (.t 105)⟩ 6 false (.rd ⟨some 107, none, .load1 false (.t 106)⟩ 7 false (.rd ⟨some 108, none, .len .sl (.t 107)⟩ 8 false (.rd ⟨some 109, none, .bin .neq .sc (.t 103) (.t 108)⟩ 9 false .done))))))))))) (.cond (.t 109) (.seq (.sq [⟨some 4, none, .mv true (.c (.bool false))⟩]) .ret) .skip))) (C_hourglasslaw17_RouteSplits_k10 f_hourglasslaw17_awake f_hourglasslaw17_long f_route_New f_route_Table_Split f_route_Table_Of f_hourglassref10_Good))
theorem u_C_hourglasslaw17_RouteSplits_k11 {C : CallW} {P : Program} {rd : Bool} {is : List Item} {fr : Fr} {σ : St} {K : KC} (f_hourglasslaw17_awake f_hourglasslaw17_long f_route_New f_route_Table_Split f_route_Table_Of f_hourglassref10_Good : FuncId) : runC C P rd (C_hourglasslaw17_RouteSplits_k11 f_hourglasslaw17_awake f_hourglasslaw17_long f_route_New f_route_Table_Split f_route_Table_Of f_hourglassref10_Good) is fr σ K = runC C P rd (.seq (.block 3 (.seq (.tree (.rd ⟨some 100, none, .mv false (.t 8)⟩ 0 false (.rd ⟨some 101, none, .mv false (.t 11)⟩ 1 false (.rd ⟨some 102, none, .ixa (.sl 1) (.t 100) (.t 101)⟩ 2 false (.rd ⟨some 103, none, .load1 false (.t 102)⟩ 3 false (.rd ⟨some 104, none, .mv false (.t 7)⟩ 4 false (.rd ⟨some 105, none, .mv false (.t 11)⟩ 5 false (.rd ⟨some 106, none, .ixa (.sl 1) (.t 104) (.t 105)⟩ 6 false (.rd ⟨some 107, none, .load1 false (.t 106)⟩ 7 false (.rd ⟨some 108, none, .len .sl (.t 107)⟩ 8 false (.rd ⟨some 109, none, .bin .neq .sc (.t 103) (.t 108)⟩ 9 false .done))))))))))) (.cond (.t 109) (.seq (.sq [⟨some 4, none, .mv true (.c (.bool false))⟩]) .ret) .skip))) (C_hourglasslaw17_RouteSplits_k10 f_hourglasslaw17_awake f_hourglasslaw17_long f_route_New f_route_Table_Split f_route_Table_Of f_hourglassref10_Good)) is fr σ K := (rfl)
def C_hourglasslaw17_RouteSplits_k12 (f_hourglasslaw17_awake f_hourglasslaw17_long f_route_New f_route_Table_Split f_route_Table_Of f_hourglassref10_Good : FuncId) : LCode := (.seq (.seq (.sq [⟨some 94, none, .mv false (.t 11)⟩,
        ⟨some 95, none, .mv false (.t 7)⟩,
        ⟨some 96, none, .len .sl (.t 95)⟩,
        ⟨some 97, none, .bin .lss .sc (.t 94) (.t 96)⟩]) (.cond (.t 97) .skip (.exit 2))) (C_hourglasslaw17_RouteSplits_k11 f_hourglasslaw17_awake f_hourglasslaw17_long f_route_New f_route_Table_Split f_route_Table_Of f_hourglassref10_Good))
theorem u_C_hourglasslaw17_RouteSplits_k12 {C : CallW} {P : Program} {rd : Bool} {is : List Item} {fr : Fr} {σ : St} {K : KC} (f_hourglasslaw17_awake f_hourglasslaw17_long f_route_New f_route_Table_Split f_route_Table_Of f_hourglassref10_Good : FuncId) : runC C P rd (C_hourglasslaw17_RouteSplits_k12 f_hourglasslaw17_awake f_hourglasslaw17_long f_route_New f_route_Table_Split f_route_Table_Of f_hourglassref10_Good) is fr σ K = runC C P rd (.seq (.seq (.sq [⟨some 94, none, .mv false (.t 11)⟩,
        ⟨some 95, none, .mv false (.t 7)⟩,
        ⟨some 96, none, .len .sl (.t 95)⟩,
        ⟨some 97, none, .bin .lss .sc (.t 94) (.t 96)⟩]) (.cond (.t 97) .skip (.exit 2))) (C_hourglasslaw17_RouteSplits_k11 f_hourglasslaw17_awake f_hourglasslaw17_long f_route_New f_route_Table_Split f_route_Table_Of f_hourglassref10_Good)) is fr σ K := (rfl)
def C_hourglasslaw17_RouteSplits_k13 (f_hourglasslaw17_awake f_hourglasslaw17_long f_route_New f_route_Table_Split f_route_Table_Of f_hourglassref10_Good : FuncId) : LCode := (.block 2 (.loop [false, false, false, false, false, false, false, true, true, false, false, true, false, false, false, false, false, false, false, false, false, false, false, false, false, false, false, false, false, false, false, false, false, false, false, false, false, false, false, false, false, false, false, false, false, false, false, false, false, false, false, false, false, false, false, false, false, false, false, false, false, false, false, false, false, false, false, false, false, false, false, false, false, false, false, false, false, false, false, false, false, false, false, false, false, false, false, false, false, false, false, false, false, false, false, false, false, false, false, false, false, false, false, false, false, false, false, false, false, false] (C_hourglasslaw17_RouteSplits_k12 f_hourglasslaw17_awake f_hourglasslaw17_long f_route_New f_route_Table_Split f_route_Table_Of f_hourglassref10_Good)))
theorem u_C_hourglasslaw17_RouteSplits_k13 {C : CallW} {P : Program} {rd : Bool} {is : List Item} {fr : Fr} {σ : St} {K : KC} (f_hourglasslaw17_awake f_hourglasslaw17_long f_route_New f_route_Table_Split f_route_Table_Of f_hourglassref10_Good : FuncId) : runC C P rd (C_hourglasslaw17_RouteSplits_k13 f_hourglasslaw17_awake f_hourglasslaw17_long f_route_New f_route_Table_Split f_route_Table_Of f_hourglassref10_Good) is fr σ K = runC C P rd (.block 2 (.loop [false, false, false, false, false, false, false, true, true, false, false, true, false, false, false, false, false, false, false, false, false, false, false, false, false, false, false, false, false, false, false, false, false, false, false, false, false, false, false, false, false, false, false, false, false, false, false, false, false, false, false, false, false, false, false, false, false, false, false, false, false, false, false, false, false, false, false, false, false, false, false, false, false, false, false, false, false, false, false, false, false, false, false, false, false, false, false, false, false, false, false, false, false, false, false, false, false, false, false, false, false, false, false, false, false, false, false, false, false, false] (C_hourglasslaw17_RouteSplits_k12 f_hourglasslaw17_awake f_hourglasslaw17_long f_route_New f_route_Table_Split f_route_Table_Of f_hourglassref10_Good))) is fr σ K := (rfl)
def C_hourglasslaw17_RouteSplits_k14 (f_hourglasslaw17_awake f_hourglasslaw17_long f_route_New f_route_Table_Split f_route_Table_Of f_hourglassref10_Good : FuncId) : LCode := (.seq (.seq (.sq [⟨some 11, none, .mv true (.c (.int .i64 0))⟩]) (C_hourglasslaw17_RouteSplits_k13 f_hourglasslaw17_awake f_hourglasslaw17_long f_route_New f_route_Table_Split f_route_Table_Of f_hourglassref10_Good)) (.seq (.sq [⟨some 4, none, .mv true (.c (.bool true))⟩]) .ret))
theorem u_C_hourglasslaw17_RouteSplits_k14 {C : CallW} {P : Program} {rd : Bool} {is : List Item} {fr : Fr} {σ : St} {K : KC} (f_hourglasslaw17_awake f_hourglasslaw17_long f_route_New f_route_Table_Split f_route_Table_Of f_hourglassref10_Good : FuncId) : runC C P rd (C_hourglasslaw17_RouteSplits_k14 f_hourglasslaw17_awake f_hourglasslaw17_long f_route_New f_route_Table_Split f_route_Table_Of f_hourglassref10_Good) is fr σ K = runC C P rd (.seq (.seq (.sq [⟨some 11, none, .mv true (.c (.int .i64 0))⟩]) (C_hourglasslaw17_RouteSplits_k13 f_hourglasslaw17_awake f_hourglasslaw17_long f_route_New f_route_Table_Split f_route_Table_Of f_hourglassref10_Good)) (.seq (.sq [⟨some 4, none, .mv true (.c (.bool true))⟩]) .ret)) is fr σ K := (rfl)
def C_hourglasslaw17_RouteSplits_k15 (f_hourglasslaw17_awake f_hourglasslaw17_long f_route_New f_route_Table_Split f_route_Table_Of f_hourglassref10_Good : FuncId) : LCode := (.seq (.seq (.sq [⟨some 9, none, .mv true (.c (.int .i64 0))⟩]) (C_hourglasslaw17_RouteSplits_k9 f_hourglasslaw17_awake f_hourglasslaw17_long f_route_New f_route_Table_Split f_route_Table_Of f_hourglassref10_Good)) (C_hourglasslaw17_RouteSplits_k14 f_hourglasslaw17_awake f_hourglasslaw17_long f_route_New f_route_Table_Split f_route_Table_Of f_hourglassref10_Good))
theorem u_C_hourglasslaw17_RouteSplits_k15 {C : CallW} {P : Program} {rd : Bool} {is : List Item} {fr : Fr} {σ : St} {K : KC} (f_hourglasslaw17_awake f_hourglasslaw17_long f_route_New f_route_Table_Split f_route_Table_Of f_hourglassref10_Good : FuncId) : runC C P rd (C_hourglasslaw17_RouteSplits_k15 f_hourglasslaw17_awake f_hourglasslaw17_long f_route_New f_route_Table_Split f_route_Table_Of f_hourglassref10_Good) is fr σ K = runC C P rd (.seq (.seq (.sq [⟨some 9, none, .mv true (.c (.int .i64 0))⟩]) (C_hourglasslaw17_RouteSplits_k9 f_hourglasslaw17_awake f_hourglasslaw17_long f_route_New f_route_Table_Split f_route_Table_Of f_hourglassref10_Good)) (C_hourglasslaw17_RouteSplits_k14 f_hourglasslaw17_awake f_hourglasslaw17_long f_route_New f_route_Table_Split f_route_Table_Of f_hourglassref10_Good)) is fr σ K := (rfl)
def C_hourglasslaw17_RouteSplits_k16 (f_hourglasslaw17_awake f_hourglasslaw17_long f_route_New f_route_Table_Split f_route_Table_Of f_hourglassref10_Good : FuncId) : LCode := (.seq (.sq [⟨some 31, none, .mv false (.t 7)⟩,
    ⟨some 32, none, .len .sl (.t 31)⟩,
    ⟨some 33, none, .mksl false false ⟨1, false, 8, (.s (.int .i64 0))⟩ (.t 32) (.t 32)⟩,
    ⟨some 8, none, .mv true (.t 33)⟩]) (C_hourglasslaw17_RouteSplits_k15 f_hourglasslaw17_awake f_hourglasslaw17_long f_route_New f_route_Table_Split f_route_Table_Of f_hourglassref10_Good))
theorem u_C_hourglasslaw17_RouteSplits_k16 {C : CallW} {P : Program} {rd : Bool} {is : List Item} {fr : Fr} {σ : St} {K : KC} (f_hourglasslaw17_awake f_hourglasslaw17_long f_route_New f_route_Table_Split f_route_Table_Of f_hourglassref10_Good : FuncId) : runC C P rd (C_hourglasslaw17_RouteSplits_k16 f_hourglasslaw17_awake f_hourglasslaw17_long f_route_New f_route_Table_Split f_route_Table_Of f_hourglassref10_Good) is fr σ K = runC C P rd (.seq (.sq [⟨some 31, none, .mv false (.t 7)⟩,
    ⟨some 32, none, .len .sl (.t 31)⟩,
    ⟨some 33, none, .mksl false false ⟨1, false, 8, (.s (.int .i64 0))⟩ (.t 32) (.t 32)⟩,
    ⟨some 8, none, .mv true (.t 33)⟩]) (C_hourglasslaw17_RouteSplits_k15 f_hourglasslaw17_awake f_hourglasslaw17_long f_route_New f_route_Table_Split f_route_Table_Of f_hourglassref10_Good)) is fr σ K := (rfl)
def C_hourglasslaw17_RouteSplits_k17 (f_hourglasslaw17_awake f_hourglasslaw17_long f_route_New f_route_Table_Split f_route_Table_Of f_hourglassref10_Good : FuncId) : LCode := (.seq (.sq [⟨some 28, none, .mv false (.t 5)⟩,
    ⟨some 29, none, .mv false (.t 1)⟩,
    ⟨some 30, none, .call (.f f_route_Table_Split) [(.t 28), (.t 29)]⟩,
    ⟨some 7, none, .mv true (.t 30)⟩]) (C_hourglasslaw17_RouteSplits_k16 f_hourglasslaw17_awake f_hourglasslaw17_long f_route_New f_route_Table_Split f_route_Table_Of f_hourglassref10_Good))
theorem u_C_hourglasslaw17_RouteSplits_k17 {C : CallW} {P : Program} {rd : Bool} {is : List Item} {fr : Fr} {σ : St} {K : KC} (f_hourglasslaw17_awake f_hourglasslaw17_long f_route_New f_route_Table_Split f_route_Table_Of f_hourglassref10_Good : FuncId) : runC C P rd (C_hourglasslaw17_RouteSplits_k17 f_hourglasslaw17_awake f_hourglasslaw17_long f_route_New f_route_Table_Split f_route_Table_Of f_hourglassref10_Good) is fr σ K = runC C P rd (.seq (.sq [⟨some 28, none, .mv false (.t 5)⟩,
    ⟨some 29, none, .mv false (.t 1)⟩,
    ⟨some 30, none, .call (.f f_route_Table_Split) [(.t 28), (.t 29)]⟩,
    ⟨some 7, none, .mv true (.t 30)⟩]) (C_hourglasslaw17_RouteSplits_k16 f_hourglasslaw17_awake f_hourglasslaw17_long f_route_New f_route_Table_Split f_route_Table_Of f_hourglassref10_Good)) is fr σ K := (rfl)
def C_hourglasslaw17_RouteSplits_k18 (f_hourglasslaw17_awake f_hourglasslaw17_long f_route_New f_route_Table_Split f_route_Table_Of f_hourglassref10_Good : FuncId) : LCode := (.seq (.seq (.sq [⟨some 26, none, .mv false (.t 6)⟩,
    ⟨some 27, none, .bin .neq .sc (.t 26) (.c (.int .i64 0))⟩]) (.cond (.t 27) (.seq (.sq [⟨some 4, none, .mv true (.c (.bool true))⟩]) .ret) .skip)) (C_hourglasslaw17_RouteSplits_k17 f_hourglasslaw17_awake f_hourglasslaw17_long f_route_New f_route_Table_Split f_route_Table_Of f_hourglassref10_Good))
theorem u_C_hourglasslaw17_RouteSplits_k18 {C : CallW} {P : Program} {rd : Bool} {is : List Item} {fr : Fr} {σ : St} {K : KC} (f_hourglasslaw17_awake f_hourglasslaw17_long f_route_New f_route_Table_Split f_route_Table_Of f_hourglassref10_Good : FuncId) : runC C P rd (C_hourglasslaw17_RouteSplits_k18 f_hourglasslaw17_awake f_hourglasslaw17_long f_route_New f_route_Table_Split f_route_Table_Of f_hourglassref10_Good) is fr σ K = runC C P rd (.seq (.seq (.sq [⟨some 26, none, .mv false (.t 6)⟩,
    ⟨some 27, none, .bin .neq .sc (.t 26) (.c (.int .i64 0))⟩]) (.cond (.t 27) (.seq (.sq [⟨some 4, none, .mv true (.c (.bool true))⟩]) .ret) .skip)) (C_hourglasslaw17_RouteSplits_k17 f_hourglasslaw17_awake f_hourglasslaw17_long f_route_New f_route_Table_Split f_route_Table_Of f_hourglassref10_Good)) is fr σ K := (rfl)
def C_hourglasslaw17_RouteSplits_k19 (f_hourglasslaw17_awake f_hourglasslaw17_long f_route_New f_route_Table_Split f_route_Table_Of f_hourglassref10_Good : FuncId) : LCode := (.seq (.sq [⟨some 22, none, .mv true (.t 0)⟩,
    ⟨some 23, none, .call (.f f_route_New) [(.t 22)]⟩,
    ⟨some 21, none, .mv false (.t 23)⟩,
    ⟨some 24, none, .ext (.t 21) 0⟩,
    ⟨some 25, none, .ext (.t 21) 1⟩,
    ⟨some 5, none, .mv true (.t 24)⟩,
    ⟨some 6, none, .mv true (.t 25)⟩]) (C_hourglasslaw17_RouteSplits_k18 f_hourglasslaw17_awake f_hourglasslaw17_long f_route_New f_route_Table_Split f_route_Table_Of f_hourglassref10_Good))
theorem u_C_hourglasslaw17_RouteSplits_k19 {C : CallW} {P : Program} {rd : Bool} {is : List Item} {fr : Fr} {σ : St} {K : KC} (f_hourglasslaw17_awake f_hourglasslaw17_long f_route_New f_route_Table_Split f_route_Table_Of f_hourglassref10_Good : FuncId) : runC C P rd (C_hourglasslaw17_RouteSplits_k19 f_hourglasslaw17_awake f_hourglasslaw17_long f_route_New f_route_Table_Split f_route_Table_Of f_hourglassref10_Good) is fr σ K = runC C P rd (.seq (.sq [⟨some 22, none, .mv true (.t 0)⟩,
    ⟨some 23, none, .call (.f f_route_New) [(.t 22)]⟩,
    ⟨some 21, none, .mv false (.t 23)⟩,
    ⟨some 24, none, .ext (.t 21) 0⟩,
    ⟨some 25, none, .ext (.t 21) 1⟩,
    ⟨some 5, none, .mv true (.t 24)⟩,
    ⟨some 6, none, .mv true (.t 25)⟩]) (C_hourglasslaw17_RouteSplits_k18 f_hourglasslaw17_awake f_hourglasslaw17_long f_route_New f_route_Table_Split f_route_Table_Of f_hourglassref10_Good)) is fr σ K := (rfl)
def C_hourglasslaw17_RouteSplits_k20 (f_hourglasslaw17_awake f_hourglasslaw17_long f_route_New f_route_Table_Split f_route_Table_Of f_hourglassref10_Good : FuncId) : LCode := (.seq (.seq (.sq [⟨some 14, none, .mv false (.t 0)⟩,
    ⟨some 15, none, .len .sl (.t 14)⟩,
    ⟨some 16, none, .bin .gtr .sc (.t 15) (.c (.int .i64 7))⟩,
    ⟨some 17, none, .mv false (.t 16)⟩,
    ⟨some 18, some (17, false), .mv false (.t 1)⟩,
    ⟨some 19, some (17, false), .call (.f f_hourglasslaw17_long) [(.t 18)]⟩,
    ⟨some 20, none, .pick (.t 17) (.c (.bool true)) (.t 19)⟩]) (.cond (.t 20) (.seq (.sq [⟨some 4, none, .mv true (.c (.bool true))⟩]) .ret) .skip)) (C_hourglasslaw17_RouteSplits_k19 f_hourglasslaw17_awake f_hourglasslaw17_long f_route_New f_route_Table_Split f_route_Table_Of f_hourglassref10_Good))
theorem u_C_hourglasslaw17_RouteSplits_k20 {C : CallW} {P : Program} {rd : Bool} {is : List Item} {fr : Fr} {σ : St} {K : KC} (f_hourglasslaw17_awake f_hourglasslaw17_long f_route_New f_route_Table_Split f_route_Table_Of f_hourglassref10_Good : FuncId) : runC C P rd (C_hourglasslaw17_RouteSplits_k20 f_hourglasslaw17_awake f_hourglasslaw17_long f_route_New f_route_Table_Split f_route_Table_Of f_hourglassref10_Good) is fr σ K = runC C P rd (.seq (.seq (.sq [⟨some 14, none, .mv false (.t 0)⟩,
    ⟨some 15, none, .len .sl (.t 14)⟩,
    ⟨some 16, none, .bin .gtr .sc (.t 15) (.c (.int .i64 7))⟩,
    ⟨some 17, none, .mv false (.t 16)⟩,
    ⟨some 18, some (17, false), .mv false (.t 1)⟩,
    ⟨some 19, some (17, false), .call (.f f_hourglasslaw17_long) [(.t 18)]⟩,
    ⟨some 20, none, .pick (.t 17) (.c (.bool true)) (.t 19)⟩]) (.cond (.t 20) (.seq (.sq [⟨some 4, none, .mv true (.c (.bool true))⟩]) .ret) .skip)) (C_hourglasslaw17_RouteSplits_k19 f_hourglasslaw17_awake f_hourglasslaw17_long f_route_New f_route_Table_Split f_route_Table_Of f_hourglassref10_Good)) is fr σ K := (rfl)
def C_hourglasslaw17_RouteSplits_k21 (f_hourglasslaw17_awake f_hourglasslaw17_long f_route_New f_route_Table_Split f_route_Table_Of f_hourglassref10_Good : FuncId) : LCode := (.seq (.seq (.sq [⟨some 12, none, .call (.f f_hourglasslaw17_awake) []⟩,
    ⟨some 13, none, .un .not (.t 12)⟩]) (.cond (.t 13) (.seq (.sq [⟨some 4, none, .mv true (.c (.bool false))⟩]) .ret) .skip)) (C_hourglasslaw17_RouteSplits_k20 f_hourglasslaw17_awake f_hourglasslaw17_long f_route_New f_route_Table_Split f_route_Table_Of f_hourglassref10_Good))
theorem u_C_hourglasslaw17_RouteSplits_k21 {C : CallW} {P : Program} {rd : Bool} {is : List Item} {fr : Fr} {σ : St} {K : KC} (f_hourglasslaw17_awake f_hourglasslaw17_long f_route_New f_route_Table_Split f_route_Table_Of f_hourglassref10_Good : FuncId) : runC C P rd (C_hourglasslaw17_RouteSplits_k21 f_hourglasslaw17_awake f_hourglasslaw17_long f_route_New f_route_Table_Split f_route_Table_Of f_hourglassref10_Good) is fr σ K = runC C P rd (.seq (.seq (.sq [⟨some 12, none, .call (.f f_hourglasslaw17_awake) []⟩,
    ⟨some 13, none, .un .not (.t 12)⟩]) (.cond (.t 13) (.seq (.sq [⟨some 4, none, .mv true (.c (.bool false))⟩]) .ret) .skip)) (C_hourglasslaw17_RouteSplits_k20 f_hourglasslaw17_awake f_hourglasslaw17_long f_route_New f_route_Table_Split f_route_Table_Of f_hourglassref10_Good)) is fr σ K := (rfl)
--U C_hourglasslaw17_RouteSplits u_C_hourglasslaw17_RouteSplits_k1, u_C_hourglasslaw17_RouteSplits_k2, u_C_hourglasslaw17_RouteSplits_k3, u_C_hourglasslaw17_RouteSplits_k4, u_C_hourglasslaw17_RouteSplits_k5, u_C_hourglasslaw17_RouteSplits_k6, u_C_hourglasslaw17_RouteSplits_k7, u_C_hourglasslaw17_RouteSplits_k8, u_C_hourglasslaw17_RouteSplits_k9, u_C_hourglasslaw17_RouteSplits_k10, u_C_hourglasslaw17_RouteSplits_k11, u_C_hourglasslaw17_RouteSplits_k12, u_C_hourglasslaw17_RouteSplits_k13, u_C_hourglasslaw17_RouteSplits_k14, u_C_hourglasslaw17_RouteSplits_k15, u_C_hourglasslaw17_RouteSplits_k16, u_C_hourglasslaw17_RouteSplits_k17, u_C_hourglasslaw17_RouteSplits_k18, u_C_hourglasslaw17_RouteSplits_k19, u_C_hourglasslaw17_RouteSplits_k20, u_C_hourglasslaw17_RouteSplits_k21
def C_hourglasslaw17_RouteSplits (f_hourglasslaw17_awake f_hourglasslaw17_long f_route_New f_route_Table_Split f_route_Table_Of f_hourglassref10_Good : FuncId) : LFn :=
  ⟨110, [.t 4], (.seq (.sq [⟨some 4, none, .mv true (.c (.bool false))⟩]) (C_hourglasslaw17_RouteSplits_k21 f_hourglasslaw17_awake f_hourglasslaw17_long f_route_New f_route_Table_Split f_route_Table_Of f_hourglassref10_Good))⟩

def C_hourglasslaw17_RouteWhole_k1 (f_hourglasslaw17_awake f_route_New f_hourglassref10_Good f_route_Table_Of f_route_Table_Nodes f_hourglassref10_Cmp f_route_Table_Cover f_hourglassref10_Within : FuncId) : LCode := (.seq (.tree (.rd ⟨some 86, none, .mv false (.t 17)⟩ 0 false (.rd ⟨some 87, none, .bin .gtr .sc (.t 86) (.c (.int .i64 0))⟩ 1 false (.rd ⟨some 88, none, .mv false (.t 87)⟩ 2 false (.rd ⟨some 89, some (88, true), .mv false (.t 15)⟩ 3 false (.rd ⟨some 90, some (88, true), .mv false (.t 17)⟩ 4 false (.rd ⟨some 91, some (88, true), .ixa (.sl 1) (.t 89) (.t 90)⟩ 5 false (.rd ⟨some 92, some (88, true), .load1 false (.t 91)⟩ 6 false (.rd ⟨some 93, some (88, true), .mv false (.t 15)⟩ 7 false (.rd ⟨some 94, some (88, true), .mv false (.t 17)⟩ 8 false (.rd ⟨some 95, some (88, true), .bin .sub .sc (.t 94) (.c (.int .i64 1))⟩ 9 false (.rd ⟨some 96, some (88, true), .ixa (.sl 1) (.t 93) (.t 95)⟩ 10 false (.rd ⟨some 97, some (88, true), .load1 false (.t 96)⟩ 11 false (.rd ⟨some 98, some (88, true), .bin .add .sc (.t 97) (.c (.int .i64 1))⟩ 12 false (.rd ⟨some 99, some (88, true), .bin .neq .sc (.t 92) (.t 98)⟩ 13 false (.rd ⟨some 100, none, .pick (.t 88) (.t 99) (.c (.bool false))⟩ 14 false .done)))))))))))))))) (.cond (.t 100) (.seq (.sq [⟨some 10, none, .mv true (.c (.bool false))⟩]) .ret) .skip))
theorem u_C_hourglasslaw17_RouteWhole_k1 {C : CallW} {P : Program} {rd : Bool} {is : List Item} {fr : Fr} {σ : St} {K : KC} (f_hourglasslaw17_awake f_route_New f_hourglassref10_Good f_route_Table_Of f_route_Table_Nodes f_hourglassref10_Cmp f_route_Table_Cover f_hourglassref10_Within : FuncId) : runC C P rd (C_hourglasslaw17_RouteWhole_k1 f_hourglasslaw17_awake f_route_New f_hourglassref10_Good f_route_Table_Of f_route_Table_Nodes f_hourglassref10_Cmp f_route_Table_Cover f_hourglassref10_Within) is fr σ K = runC C P rd (.seq (.tree (.rd ⟨some 86, none, .mv false (.t 17)⟩ 0 false (.rd ⟨some 87, none, .bin .gtr .sc (.t 86) (.c (.int .i64 0))⟩ 1 false (.rd ⟨some 88, none, .mv false (.t 87)⟩ 2 false (.rd ⟨some 89, some (88, true), .mv false (.t 15)⟩ 3 false (.rd ⟨some 90, some (88, true), .mv false (.t 17)⟩ 4 false (.rd ⟨some 91, some (88, true), .ixa (.sl 1) (.t 89) (.t 90)⟩ 5 false (.rd ⟨some 92, some (88, true), .load1 false (.t 91)⟩ 6 false (.rd ⟨some 93, some (88, true), .mv false (.t 15)⟩ 7 false (.rd ⟨some 94, some (88, true), .mv false (.t 17)⟩ 8 false (.rd ⟨some 95, some (88, true), .bin .sub .sc (.t 94) (.c (.int .i64 1))⟩ 9 false (.rd ⟨some 96, some (88, true), .ixa (.sl 1) (.t 93) (.t 95)⟩ 10 false (.rd ⟨some 97, some (88, true), .load1 false (.t 96)⟩ 11 false (.rd ⟨some 98, some (88, true), .bin .add .sc (.t 97) (.c (.int .i64 1))⟩ 12 false (.rd ⟨some 99, some (88, true), .bin .neq .sc (.t 92) (.t 98)⟩ 13 false (.rd ⟨some 100, none, .pick (.t 88) (.t 99) (.c (.bool false))⟩ 14 false .done)))))))))))))))) (.cond (.t 100) (.seq (.sq [⟨some 10, none, .mv true (.c (.bool false))⟩]) .ret) .skip)) is fr σ K := (rfl)
def C_hourglasslaw17_RouteWhole_k2 (f_hourglasslaw17_awake f_route_New f_hourglassref10_Good f_route_Table_Of f_route_Table_Nodes f_hourglassref10_Cmp f_route_Table_Cover f_hourglassref10_Within : FuncId) : LCode := (.sq [⟨some 75, none, .mv false (.t 17)⟩,
        ⟨some 76, none, .bin .add .sc (.t 75) (.c (.int .i64 1))⟩,
        ⟨some 17, none, .mv true (.t 76)⟩])
theorem u_C_hourglasslaw17_RouteWhole_k2 {C : CallW} {P : Program} {rd : Bool} {is : List Item} {fr : Fr} {σ : St} {K : KC} (f_hourglasslaw17_awake f_route_New f_hourglassref10_Good f_route_Table_Of f_route_Table_Nodes f_hourglassref10_Cmp f_route_Table_Cover f_hourglassref10_Within : FuncId) : runC C P rd (C_hourglasslaw17_RouteWhole_k2 f_hourglasslaw17_awake f_route_New f_hourglassref10_Good f_route_Table_Of f_route_Table_Nodes f_hourglassref10_Cmp f_route_Table_Cover f_hourglassref10_Within) is fr σ K = runC C P rd (.sq [⟨some 75, none, .mv false (.t 17)⟩,
        ⟨some 76, none, .bin .add .sc (.t 75) (.c (.int .i64 1))⟩,
        ⟨some 17, none, .mv true (.t 76)⟩]) is fr σ K := (rfl)
def C_hourglasslaw17_RouteWhole_k3 (f_hourglasslaw17_awake f_route_New f_hourglassref10_Good f_route_Table_Of f_route_Table_Nodes f_hourglassref10_Cmp f_route_Table_Cover f_hourglassref10_Within : FuncId) : LCode := (.seq (.block 1 (.seq (.sq [⟨some 77, none, .mv false (.t 16)⟩,
          ⟨some 78, none, .mv false (.t 77)⟩,
          ⟨some 79, some (78, false), .mv false (.t 15)⟩,
          ⟨some 80, some (78, false), .mv false (.t 17)⟩,
          ⟨some 81, some (78, false), .ixa (.sl 1) (.t 79) (.t 80)⟩,
          ⟨some 82, some (78, false), .load1 false (.t 81)⟩,
          ⟨some 83, some (78, false), .mv false (.t 13)⟩,
          ⟨some 84, some (78, false), .bin .eql .sc (.t 82) (.t 83)⟩,
          ⟨some 85, none, .pick (.t 78) (.c (.bool true)) (.t 84)⟩,
          ⟨some 16, none, .mv true (.t 85)⟩]) (C_hourglasslaw17_RouteWhole_k1 f_hourglasslaw17_awake f_route_New f_hourglassref10_Good f_route_Table_Of f_route_Table_Nodes f_hourglassref10_Cmp f_route_Table_Cover f_hourglassref10_Within))) (C_hourglasslaw17_RouteWhole_k2 f_hourglasslaw17_awake f_route_New f_hourglassref10_Good f_route_Table_Of f_route_Table_Nodes f_hourglassref10_Cmp f_route_Table_Cover f_hourglassref10_Within))
theorem u_C_hourglasslaw17_RouteWhole_k3 {C : CallW} {P : Program} {rd : Bool} {is : List Item} {fr : Fr} {σ : St} {K : KC} (f_hourglasslaw17_awake f_route_New f_hourglassref10_Good f_route_Table_Of f_route_Table_Nodes f_hourglassref10_Cmp f_route_Table_Cover f_hourglassref10_Within : FuncId) : runC C P rd (C_hourglasslaw17_RouteWhole_k3 f_hourglasslaw17_awake f_route_New f_hourglassref10_Good f_route_Table_Of f_route_Table_Nodes f_hourglassref10_Cmp f_route_Table_Cover f_hourglassref10_Within) is fr σ K = runC C P rd (.seq (.block 1 (.seq (.sq [⟨some 77, none, .mv false (.t 16)⟩,
          ⟨some 78, none, .mv false (.t 77)⟩,
          ⟨some 79, some (78, false), .mv false (.t 15)⟩,
          ⟨some 80, some (78, false), .mv false (.t 17)⟩,
          ⟨some 81, some (78, false), .ixa (.sl 1) (.t 79) (.t 80)⟩,
          ⟨some 82, some (78, false), .load1 false (.t 81)⟩,
          ⟨some 83, some (78, false), .mv false (.t 13)⟩,
          ⟨some 84, some (78, false), .bin .eql .sc (.t 82) (.t 83)⟩,
          ⟨some 85, none, .pick (.t 78) (.c (.bool true)) (.t 84)⟩,
          ⟨some 16, none, .mv true (.t 85)⟩]) (C_hourglasslaw17_RouteWhole_k1 f_hourglasslaw17_awake f_route_New f_hourglassref10_Good f_route_Table_Of f_route_Table_Nodes f_hourglassref10_Cmp f_route_Table_Cover f_hourglassref10_Within))) (C_hourglasslaw17_RouteWhole_k2 f_hourglasslaw17_awake f_route_New f_hourglassref10_Good f_route_Table_Of f_route_Table_Nodes f_hourglassref10_Cmp f_route_Table_Cover f_hourglassref10_Within)) is fr σ K := (rfl)
def C_hourglasslaw17_RouteWhole_k4 (f_hourglasslaw17_awake f_route_New f_hourglassref10_Good f_route_Table_Of f_route_Table_Nodes f_hourglassref10_Cmp f_route_Table_Cover f_hourglassref10_Within : FuncId) : LCode := (.seq (.seq (.sq [⟨some 71, none, .mv false (.t 17)⟩,
        ⟨some 72, none, .mv false (.t 15)⟩,
        ⟨some 73, none, .len .sl (.t 72)⟩,
        ⟨some 74, none, .bin .lss .sc (.t 71) (.t 73)⟩]) (.cond (.t 74) .skip (.exit 0))) (C_hourglasslaw17_RouteWhole_k3 f_hourglasslaw17_awake f_route_New f_hourglassref10_Good f_route_Table_Of f_route_Table_Nodes f_hourglassref10_Cmp f_route_Table_Cover f_hourglassref10_Within))
theorem u_C_hourglasslaw17_RouteWhole_k4 {C : CallW} {P : Program} {rd : Bool} {is : List Item} {fr : Fr} {σ : St} {K : KC} (f_hourglasslaw17_awake f_route_New f_hourglassref10_Good f_route_Table_Of f_route_Table_Nodes f_hourglassref10_Cmp f_route_Table_Cover f_hourglassref10_Within : FuncId) : runC C P rd (C_hourglasslaw17_RouteWhole_k4 f_hourglasslaw17_awake f_route_New f_hourglassref10_Good f_route_Table_Of f_route_Table_Nodes f_hourglassref10_Cmp f_route_Table_Cover f_hourglassref10_Within) is fr σ K = runC C P rd (.seq (.seq (.sq [⟨some 71, none, .mv false (.t 17)⟩,
        ⟨some 72, none, .mv false (.t 15)⟩,
        ⟨some 73, none, .len .sl (.t 72)⟩,
        ⟨some 74, none, .bin .lss .sc (.t 71) (.t 73)⟩]) (.cond (.t 74) .skip (.exit 0))) (C_hourglasslaw17_RouteWhole_k3 f_hourglasslaw17_awake f_route_New f_hourglassref10_Good f_route_Table_Of f_route_Table_Nodes f_hourglassref10_Cmp f_route_Table_Cover f_hourglassref10_Within)) is fr σ K := (rfl)
def C_hourglasslaw17_RouteWhole_k5 (f_hourglasslaw17_awake f_route_New f_hourglassref10_Good f_route_Table_Of f_route_Table_Nodes f_hourglassref10_Cmp f_route_Table_Cover f_hourglassref10_Within : FuncId) : LCode := (.block 0 (.loop [false, false, false, false, false, false, true, false, true, true, false, false, false, true, false, true, true, true, false, false, false, false, false, false, false, false, false, false, false, false, false, false, false, false, false, false, false, false, false, false, false, false, false, false, false, false, false, false, false, false, false, false, false, false, false, false, false, false, false, false, false, false, false, false, false, false, false, false, false, false, false, false, false, false, false, false, false, false, false, false, false, false, false, false, false, false, false, false, false, false, false, false, false, false, false, false, false, false, false, false, false, false, false, false, false, false, false, false, false] (C_hourglasslaw17_RouteWhole_k4 f_hourglasslaw17_awake f_route_New f_hourglassref10_Good f_route_Table_Of f_route_Table_Nodes f_hourglassref10_Cmp f_route_Table_Cover f_hourglassref10_Within)))
theorem u_C_hourglasslaw17_RouteWhole_k5 {C : CallW} {P : Program} {rd : Bool} {is : List Item} {fr : Fr} {σ : St} {K : KC} (f_hourglasslaw17_awake f_route_New f_hourglassref10_Good f_route_Table_Of f_route_Table_Nodes f_hourglassref10_Cmp f_route_Table_Cover f_hourglassref10_Within : FuncId) : runC C P rd (C_hourglasslaw17_RouteWhole_k5 f_hourglasslaw17_awake f_route_New f_hourglassref10_Good f_route_Table_Of f_route_Table_Nodes f_hourglassref10_Cmp f_route_Table_Cover f_hourglassref10_Within) is fr σ K = runC C P rd (.block 0 (.loop [false, false, false, false, false, false, true, false, true, true, false, false, false, true, false, true, true, true, false, false, false, false, false, false, false, false, false, false, false, false, false, false, false, false, false, false, false, false, false, false, false, false, false, false, false, false, false, false, false, false, false, false, false, false, false, false, false, false, false, false, false, false, false, false, false, false, false, false, false, false, false, false, false, false, false, false, false, false, false, false, false, false, false, false, false, false, false, false, false, false, false, false, false, false, false, false, false, false, false, false, false, false, false, false, false, false, false, false, false] (C_hourglasslaw17_RouteWhole_k4 f_hourglasslaw17_awake f_route_New f_hourglassref10_Good f_route_Table_Of f_route_Table_Nodes f_hourglassref10_Cmp f_route_Table_Cover f_hourglassref10_Within))) is fr σ K := (rfl)
def C_hourglasslaw17_RouteWhole_k6 (f_hourglasslaw17_awake f_route_New f_hourglassref10_Good f_route_Table_Of f_route_Table_Nodes f_hourglassref10_Cmp f_route_Table_Cover f_hourglassref10_Within : FuncId) : LCode := (.seq (.sq [⟨some 101, none, .mv false (.t 16)⟩,
    ⟨some 102, none, .mv false (.t 101)⟩,
    ⟨some 103, some (102, false), .loadA 16 (.t 6)⟩,
    ⟨some 104, some (102, false), .loadA 16 (.t 8)⟩,
    ⟨some 105, some (102, false), .loadA 16 (.t 9)⟩,
    ⟨some 106, some (102, false), .call (.f f_hourglassref10_Within) [(.t 103), (.t 104), (.t 105)]⟩,
    ⟨some 107, some (102, false), .un .not (.t 106)⟩,
    ⟨some 108, none, .pick (.t 102) (.c (.bool true)) (.t 107)⟩,
    ⟨some 10, none, .mv true (.t 108)⟩]) .ret)
theorem u_C_hourglasslaw17_RouteWhole_k6 {C : CallW} {P : Program} {rd : Bool} {is : List Item} {fr : Fr} {σ : St} {K : KC} (f_hourglasslaw17_awake f_route_New f_hourglassref10_Good f_route_Table_Of f_route_Table_Nodes f_hourglassref10_Cmp f_route_Table_Cover f_hourglassref10_Within : FuncId) : runC C P rd (C_hourglasslaw17_RouteWhole_k6 f_hourglasslaw17_awake f_route_New f_hourglassref10_Good f_route_Table_Of f_route_Table_Nodes f_hourglassref10_Cmp f_route_Table_Cover f_hourglassref10_Within) is fr σ K = runC C P rd (.seq (.sq [⟨some 101, none, .mv false (.t 16)⟩,
    ⟨some 102, none, .mv false (.t 101)⟩,
    ⟨some 103, some (102, false), .loadA 16 (.t 6)⟩,
    ⟨some 104, some (102, false), .loadA 16 (.t 8)⟩,
    ⟨some 105, some (102, false), .loadA 16 (.t 9)⟩,
    ⟨some 106, some (102, false), .call (.f f_hourglassref10_Within) [(.t 103), (.t 104), (.t 105)]⟩,
    ⟨some 107, some (102, false), .un .not (.t 106)⟩,
    ⟨some 108, none, .pick (.t 102) (.c (.bool true)) (.t 107)⟩,
    ⟨some 10, none, .mv true (.t 108)⟩]) .ret) is fr σ K := (rfl)
def C_hourglasslaw17_RouteWhole_k7 (f_hourglasslaw17_awake f_route_New f_hourglassref10_Good f_route_Table_Of f_route_Table_Nodes f_hourglassref10_Cmp f_route_Table_Cover f_hourglassref10_Within : FuncId) : LCode := (.seq (.seq (.sq [⟨some 17, none, .mv true (.c (.int .i64 0))⟩]) (C_hourglasslaw17_RouteWhole_k5 f_hourglasslaw17_awake f_route_New f_hourglassref10_Good f_route_Table_Of f_route_Table_Nodes f_hourglassref10_Cmp f_route_Table_Cover f_hourglassref10_Within)) (C_hourglasslaw17_RouteWhole_k6 f_hourglasslaw17_awake f_route_New f_hourglassref10_Good f_route_Table_Of f_route_Table_Nodes f_hourglassref10_Cmp f_route_Table_Cover f_hourglassref10_Within))
theorem u_C_hourglasslaw17_RouteWhole_k7 {C : CallW} {P : Program} {rd : Bool} {is : List Item} {fr : Fr} {σ : St} {K : KC} (f_hourglasslaw17_awake f_route_New f_hourglassref10_Good f_route_Table_Of f_route_Table_Nodes f_hourglassref10_Cmp f_route_Table_Cover f_hourglassref10_Within : FuncId) : runC C P rd (C_hourglasslaw17_RouteWhole_k7 f_hourglasslaw17_awake f_route_New f_hourglassref10_Good f_route_Table_Of f_route_Table_Nodes f_hourglassref10_Cmp f_route_Table_Cover f_hourglassref10_Within) is fr σ K = runC C P rd (.seq (.seq (.sq [⟨some 17, none, .mv true (.c (.int .i64 0))⟩]) (C_hourglasslaw17_RouteWhole_k5 f_hourglasslaw17_awake f_route_New f_hourglassref10_Good f_route_Table_Of f_route_Table_Nodes f_hourglassref10_Cmp f_route_Table_Cover f_hourglassref10_Within)) (C_hourglasslaw17_RouteWhole_k6 f_hourglasslaw17_awake f_route_New f_hourglassref10_Good f_route_Table_Of f_route_Table_Nodes f_hourglassref10_Cmp f_route_Table_Cover f_hourglassref10_Within)) is fr σ K := (rfl)
def C_hourglasslaw17_RouteWhole_k8 (f_hourglasslaw17_awake f_route_New f_hourglassref10_Good f_route_Table_Of f_route_Table_Nodes f_hourglassref10_Cmp f_route_Table_Cover f_hourglassref10_Within : FuncId) : LCode := (.seq (.sq [⟨some 16, none, .mv true (.c (.bool false))⟩]) (C_hourglasslaw17_RouteWhole_k7 f_hourglasslaw17_awake f_route_New f_hourglassref10_Good f_route_Table_Of f_route_Table_Nodes f_hourglassref10_Cmp f_route_Table_Cover f_hourglassref10_Within))
theorem u_C_hourglasslaw17_RouteWhole_k8 {C : CallW} {P : Program} {rd : Bool} {is : List Item} {fr : Fr} {σ : St} {K : KC} (f_hourglasslaw17_awake f_route_New f_hourglassref10_Good f_route_Table_Of f_route_Table_Nodes f_hourglassref10_Cmp f_route_Table_Cover f_hourglassref10_Within : FuncId) : runC C P rd (C_hourglasslaw17_RouteWhole_k8 f_hourglasslaw17_awake f_route_New f_hourglassref10_Good f_route_Table_Of f_route_Table_Nodes f_hourglassref10_Cmp f_route_Table_Cover f_hourglassref10_Within) is fr σ K = runC C P rd (.seq (.sq [⟨some 16, none, .mv true (.c (.bool false))⟩]) (C_hourglasslaw17_RouteWhole_k7 f_hourglasslaw17_awake f_route_New f_hourglassref10_Good f_route_Table_Of f_route_Table_Nodes f_hourglassref10_Cmp f_route_Table_Cover f_hourglassref10_Within)) is fr σ K := (rfl)
def C_hourglasslaw17_RouteWhole_k9 (f_hourglasslaw17_awake f_route_New f_hourglassref10_Good f_route_Table_Of f_route_Table_Nodes f_hourglassref10_Cmp f_route_Table_Cover f_hourglassref10_Within : FuncId) : LCode := (.seq (.sq [⟨some 67, none, .mv false (.t 11)⟩,
    ⟨some 68, none, .loadA 16 (.t 8)⟩,
    ⟨some 69, none, .loadA 16 (.t 9)⟩,
    ⟨some 70, none, .call (.f f_route_Table_Cover) [(.t 67), (.t 68), (.t 69)]⟩,
    ⟨some 15, none, .mv true (.t 70)⟩]) (C_hourglasslaw17_RouteWhole_k8 f_hourglasslaw17_awake f_route_New f_hourglassref10_Good f_route_Table_Of f_route_Table_Nodes f_hourglassref10_Cmp f_route_Table_Cover f_hourglassref10_Within))
theorem u_C_hourglasslaw17_RouteWhole_k9 {C : CallW} {P : Program} {rd : Bool} {is : List Item} {fr : Fr} {σ : St} {K : KC} (f_hourglasslaw17_awake f_route_New f_hourglassref10_Good f_route_Table_Of f_route_Table_Nodes f_hourglassref10_Cmp f_route_Table_Cover f_hourglassref10_Within : FuncId) : runC C P rd (C_hourglasslaw17_RouteWhole_k9 f_hourglasslaw17_awake f_route_New f_hourglassref10_Good f_route_Table_Of f_route_Table_Nodes f_hourglassref10_Cmp f_route_Table_Cover f_hourglassref10_Within) is fr σ K = runC C P rd (.seq (.sq [⟨some 67, none, .mv false (.t 11)⟩,
    ⟨some 68, none, .loadA 16 (.t 8)⟩,
    ⟨some 69, none, .loadA 16 (.t 9)⟩,
    ⟨some 70, none, .call (.f f_route_Table_Cover) [(.t 67), (.t 68), (.t 69)]⟩,
    ⟨some 15, none, .mv true (.t 70)⟩]) (C_hourglasslaw17_RouteWhole_k8 f_hourglasslaw17_awake f_route_New f_hourglassref10_Good f_route_Table_Of f_route_Table_Nodes f_hourglassref10_Cmp f_route_Table_Cover f_hourglassref10_Within)) is fr σ K := (rfl)
def C_hourglasslaw17_RouteWhole_k10 (f_hourglasslaw17_awake f_route_New f_hourglassref10_Good f_route_Table_Of f_route_Table_Nodes f_hourglassref10_Cmp f_route_Table_Cover f_hourglassref10_Within : FuncId) : LCode := (.seq (.seq (.sq [⟨some 48, none, .mv false (.t 13)⟩,
    ⟨some 49, none, .bin .lss .sc (.t 48) (.c (.int .i64 0))⟩,
    ⟨some 50, none, .mv false (.t 49)⟩,
    ⟨some 51, some (50, false), .mv false (.t 13)⟩,
    ⟨some 52, some (50, false), .mv false (.t 11)⟩,
    ⟨some 53, some (50, false), .call (.f f_route_Table_Nodes) [(.t 52)]⟩,
    ⟨some 54, some (50, false), .bin .geq .sc (.t 51) (.t 53)⟩,
    ⟨some 55, none, .pick (.t 50) (.c (.bool true)) (.t 54)⟩,
    ⟨some 56, none, .mv false (.t 55)⟩,
    ⟨some 57, some (56, false), .loadA 16 (.t 6)⟩,
    ⟨some 58, some (56, false), .loadA 16 (.t 7)⟩,
    ⟨some 59, some (56, false), .call (.f f_hourglassref10_Cmp) [(.t 57), (.t 58)]⟩,
    ⟨some 60, some (56, false), .bin .leq .sc (.t 59) (.c (.int .i64 0))⟩,
    ⟨some 61, some (56, false), .mv false (.t 60)⟩,
    ⟨some 62, some (61, true), .mv false (.t 13)⟩,
    ⟨some 63, some (61, true), .mv false (.t 14)⟩,
    ⟨some 64, some (61, true), .bin .gtr .sc (.t 62) (.t 63)⟩,
    ⟨some 65, some (56, false), .pick (.t 61) (.t 64) (.c (.bool false))⟩,
    ⟨some 66, none, .pick (.t 56) (.c (.bool true)) (.t 65)⟩]) (.cond (.t 66) (.seq (.sq [⟨some 10, none, .mv true (.c (.bool false))⟩]) .ret) .skip)) (C_hourglasslaw17_RouteWhole_k9 f_hourglasslaw17_awake f_route_New f_hourglassref10_Good f_route_Table_Of f_route_Table_Nodes f_hourglassref10_Cmp f_route_Table_Cover f_hourglassref10_Within))
theorem u_C_hourglasslaw17_RouteWhole_k10 {C : CallW} {P : Program} {rd : Bool} {is : List Item} {fr : Fr} {σ : St} {K : KC} (f_hourglasslaw17_awake f_route_New f_hourglassref10_Good f_route_Table_Of f_route_Table_Nodes f_hourglassref10_Cmp f_route_Table_Cover f_hourglassref10_Within : FuncId) : runC C P rd (C_hourglasslaw17_RouteWhole_k10 f_hourglasslaw17_awake f_route_New f_hourglassref10_Good f_route_Table_Of f_route_Table_Nodes f_hourglassref10_Cmp f_route_Table_Cover f_hourglassref10_Within) is fr σ K = runC C P rd (.seq (.seq (.sq [⟨some 48, none, .mv false (.t 13)⟩,
    ⟨some 49, none, .bin .lss .sc (.t 48) (.c (.int .i64 0))⟩,
    ⟨some 50, none, .mv false (.t 49)⟩,
    ⟨some 51, some (50, false), .mv false (.t 13)⟩,
    ⟨some 52, some (50, false), .mv false (.t 11)⟩,
    ⟨some 53, some (50, false), .call (.f f_route_Table_Nodes) [(.t 52)]⟩,
    ⟨some 54, some (50, false), .bin .geq .sc (.t 51) (.t 53)⟩,
    ⟨some 55, none, .pick (.t 50) (.c (.bool true)) (.t 54)⟩,
    ⟨some 56, none, .mv false (.t 55)⟩,
    ⟨some 57, some (56, false), .loadA 16 (.t 6)⟩,
    ⟨some 58, some (56, false), .loadA 16 (.t 7)⟩,
    ⟨some 59, some (56, false), .call (.f f_hourglassref10_Cmp) [(.t 57), (.t 58)]⟩,
    ⟨some 60, some (56, false), .bin .leq .sc (.t 59) (.c (.int .i64 0))⟩,
    ⟨some 61, some (56, false), .mv false (.t 60)⟩,
    ⟨some 62, some (61, true), .mv false (.t 13)⟩,
    ⟨some 63, some (61, true), .mv false (.t 14)⟩,
    ⟨some 64, some (61, true), .bin .gtr .sc (.t 62) (.t 63)⟩,
    ⟨some 65, some (56, false), .pick (.t 61) (.t 64) (.c (.bool false))⟩,
    ⟨some 66, none, .pick (.t 56) (.c (.bool true)) (.t 65)⟩]) (.cond (.t 66) (.seq (.sq [⟨some 10, none, .mv true (.c (.bool false))⟩]) .ret) .skip)) (C_hourglasslaw17_RouteWhole_k9 f_hourglasslaw17_awake f_route_New f_hourglassref10_Good f_route_Table_Of f_route_Table_Nodes f_hourglassref10_Cmp f_route_Table_Cover f_hourglassref10_Within)) is fr σ K := (rfl)
def C_hourglasslaw17_RouteWhole_k11 (f_hourglasslaw17_awake f_route_New f_hourglassref10_Good f_route_Table_Of f_route_Table_Nodes f_hourglassref10_Cmp f_route_Table_Cover f_hourglassref10_Within : FuncId) : LCode := (.seq (.tree (.rd ⟨some 42, none, .mv false (.t 11)⟩ 0 false (.rd ⟨some 43, none, .loadA 16 (.t 6)⟩ 1 false (.rd ⟨some 45, none, .mv false (.t 11)⟩ 3 true (.rd ⟨some 46, none, .loadA 16 (.t 7)⟩ 4 true (.mv ⟨some 44, none, .call (.f f_route_Table_Of) [(.t 42), (.t 43)]⟩ [0, 1] (.mv ⟨some 47, none, .call (.f f_route_Table_Of) [(.t 45), (.t 46)]⟩ [0, 1, 2, 3, 4] (.mv ⟨some 13, none, .mv true (.t 44)⟩ [0, 1, 2, 3, 4, 5] (.mv ⟨some 14, none, .mv true (.t 47)⟩ [0, 1, 2, 3, 4, 5, 6] .done .stop) .stop) .stop) .stop)))))) (C_hourglasslaw17_RouteWhole_k10 f_hourglasslaw17_awake f_route_New f_hourglassref10_Good f_route_Table_Of f_route_Table_Nodes f_hourglassref10_Cmp f_route_Table_Cover f_hourglassref10_Within))
theorem u_C_hourglasslaw17_RouteWhole_k11 {C : CallW} {P : Program} {rd : Bool} {is : List Item} {fr : Fr} {σ : St} {K : KC} (f_hourglasslaw17_awake f_route_New f_hourglassref10_Good f_route_Table_Of f_route_Table_Nodes f_hourglassref10_Cmp f_route_Table_Cover f_hourglassref10_Within : FuncId) : runC C P rd (C_hourglasslaw17_RouteWhole_k11 f_hourglasslaw17_awake f_route_New f_hourglassref10_Good f_route_Table_Of f_route_Table_Nodes f_hourglassref10_Cmp f_route_Table_Cover f_hourglassref10_Within) is fr σ K = runC C P rd (.seq (.tree (.rd ⟨some 42, none, .mv false (.t 11)⟩ 0 false (.rd ⟨some 43, none, .loadA 16 (.t 6)⟩ 1 false (.rd ⟨some 45, none, .mv false (.t 11)⟩ 3 true (.rd ⟨some 46, none, .loadA 16 (.t 7)⟩ 4 true (.mv ⟨some 44, none, .call (.f f_route_Table_Of) [(.t 42), (.t 43)]⟩ [0, 1] (.mv ⟨some 47, none, .call (.f f_route_Table_Of) [(.t 45), (.t 46)]⟩ [0, 1, 2, 3, 4] (.mv ⟨some 13, none, .mv true (.t 44)⟩ [0, 1, 2, 3, 4, 5] (.mv ⟨some 14, none, .mv true (.t 47)⟩ [0, 1, 2, 3, 4, 5, 6] .done .stop) .stop) .stop) .stop)))))) (C_hourglasslaw17_RouteWhole_k10 f_hourglasslaw17_awake f_route_New f_hourglassref10_Good f_route_Table_Of f_route_Table_Nodes f_hourglassref10_Cmp f_route_Table_Cover f_hourglassref10_Within)) is fr σ K := (rfl)
def C_hourglasslaw17_RouteWhole_k12 (f_hourglasslaw17_awake f_route_New f_hourglassref10_Good f_route_Table_Of f_route_Table_Nodes f_hourglassref10_Cmp f_route_Table_Cover f_hourglassref10_Within : FuncId) : LCode := (.seq (.seq (.sq [⟨some 25, none, .mv false (.t 12)⟩,
    ⟨some 26, none, .bin .neq .sc (.t 25) (.c (.int .i64 0))⟩,
    ⟨some 27, none, .mv false (.t 26)⟩,
    ⟨some 28, some (27, false), .mv false (.t 0)⟩,
    ⟨some 29, some (27, false), .len .sl (.t 28)⟩,
    ⟨some 30, some (27, false), .bin .gtr .sc (.t 29) (.c (.int .i64 7))⟩,
    ⟨some 31, none, .pick (.t 27) (.c (.bool true)) (.t 30)⟩,
    ⟨some 32, none, .mv false (.t 31)⟩,
    ⟨some 33, some (32, false), .loadA 16 (.t 6)⟩,
    ⟨some 34, some (32, false), .call (.f f_hourglassref10_Good) [(.t 33)]⟩,
    ⟨some 35, some (32, false), .un .not (.t 34)⟩,
    ⟨some 36, none, .pick (.t 32) (.c (.bool true)) (.t 35)⟩,
    ⟨some 37, none, .mv false (.t 36)⟩,
    ⟨some 38, some (37, false), .loadA 16 (.t 7)⟩,
    ⟨some 39, some (37, false), .call (.f f_hourglassref10_Good) [(.t 38)]⟩,
    ⟨some 40, some (37, false), .un .not (.t 39)⟩,
    ⟨some 41, none, .pick (.t 37) (.c (.bool true)) (.t 40)⟩]) (.cond (.t 41) (.seq (.sq [⟨some 10, none, .mv true (.c (.bool true))⟩]) .ret) .skip)) (C_hourglasslaw17_RouteWhole_k11 f_hourglasslaw17_awake f_route_New f_hourglassref10_Good f_route_Table_Of f_route_Table_Nodes f_hourglassref10_Cmp f_route_Table_Cover f_hourglassref10_Within))
theorem u_C_hourglasslaw17_RouteWhole_k12 {C : CallW} {P : Program} {rd : Bool} {is : List Item} {fr : Fr} {σ : St} {K : KC} (f_hourglasslaw17_awake f_route_New f_hourglassref10_Good f_route_Table_Of f_route_Table_Nodes f_hourglassref10_Cmp f_route_Table_Cover f_hourglassref10_Within : FuncId) : runC C P rd (C_hourglasslaw17_RouteWhole_k12 f_hourglasslaw17_awake f_route_New f_hourglassref10_Good f_route_Table_Of f_route_Table_Nodes f_hourglassref10_Cmp f_route_Table_Cover f_hourglassref10_Within) is fr σ K = runC C P rd (.seq (.seq (.sq [⟨some 25, none, .mv false (.t 12)⟩,
    ⟨some 26, none, .bin .neq .sc (.t 25) (.c (.int .i64 0))⟩,
    ⟨some 27, none, .mv false (.t 26)⟩,
    ⟨some 28, some (27, false), .mv false (.t 0)⟩,
    ⟨some 29, some (27, false), .len .sl (.t 28)⟩,
    ⟨some 30, some (27, false), .bin .gtr .sc (.t 29) (.c (.int .i64 7))⟩,
    ⟨some 31, none, .pick (.t 27) (.c (.bool true)) (.t 30)⟩,
    ⟨some 32, none, .mv false (.t 31)⟩,
    ⟨some 33, some (32, false), .loadA 16 (.t 6)⟩,
    ⟨some 34, some (32, false), .call (.f f_hourglassref10_Good) [(.t 33)]⟩,
    ⟨some 35, some (32, false), .un .not (.t 34)⟩,
    ⟨some 36, none, .pick (.t 32) (.c (.bool true)) (.t 35)⟩,
    ⟨some 37, none, .mv false (.t 36)⟩,
    ⟨some 38, some (37, false), .loadA 16 (.t 7)⟩,
    ⟨some 39, some (37, false), .call (.f f_hourglassref10_Good) [(.t 38)]⟩,
    ⟨some 40, some (37, false), .un .not (.t 39)⟩,
    ⟨some 41, none, .pick (.t 37) (.c (.bool true)) (.t 40)⟩]) (.cond (.t 41) (.seq (.sq [⟨some 10, none, .mv true (.c (.bool true))⟩]) .ret) .skip)) (C_hourglasslaw17_RouteWhole_k11 f_hourglasslaw17_awake f_route_New f_hourglassref10_Good f_route_Table_Of f_route_Table_Nodes f_hourglassref10_Cmp f_route_Table_Cover f_hourglassref10_Within)) is fr σ K := (rfl)
def C_hourglasslaw17_RouteWhole_k13 (f_hourglasslaw17_awake f_route_New f_hourglassref10_Good f_route_Table_Of f_route_Table_Nodes f_hourglassref10_Cmp f_route_Table_Cover f_hourglassref10_Within : FuncId) : LCode := (.seq (.sq [⟨some 21, none, .mv false (.t 0)⟩,
    ⟨some 22, none, .call (.f f_route_New) [(.t 21)]⟩,
    ⟨some 20, none, .mv false (.t 22)⟩,
    ⟨some 23, none, .ext (.t 20) 0⟩,
    ⟨some 24, none, .ext (.t 20) 1⟩,
    ⟨some 11, none, .mv true (.t 23)⟩,
    ⟨some 12, none, .mv true (.t 24)⟩]) (C_hourglasslaw17_RouteWhole_k12 f_hourglasslaw17_awake f_route_New f_hourglassref10_Good f_route_Table_Of f_route_Table_Nodes f_hourglassref10_Cmp f_route_Table_Cover f_hourglassref10_Within))
theorem u_C_hourglasslaw17_RouteWhole_k13 {C : CallW} {P : Program} {rd : Bool} {is : List Item} {fr : Fr} {σ : St} {K : KC} (f_hourglasslaw17_awake f_route_New f_hourglassref10_Good f_route_Table_Of f_route_Table_Nodes f_hourglassref10_Cmp f_route_Table_Cover f_hourglassref10_Within : FuncId) : runC C P rd (C_hourglasslaw17_RouteWhole_k13 f_hourglasslaw17_awake f_route_New f_hourglassref10_Good f_route_Table_Of f_route_Table_Nodes f_hourglassref10_Cmp f_route_Table_Cover f_hourglassref10_Within) is fr σ K = runC C P rd (.seq (.sq [⟨some 21, none, .mv false (.t 0)⟩,
    ⟨some 22, none, .call (.f f_route_New) [(.t 21)]⟩,
    ⟨some 20, none, .mv false (.t 22)⟩,
    ⟨some 23, none, .ext (.t 20) 0⟩,
    ⟨some 24, none, .ext (.t 20) 1⟩,
    ⟨some 11, none, .mv true (.t 23)⟩,
    ⟨some 12, none, .mv true (.t 24)⟩]) (C_hourglasslaw17_RouteWhole_k12 f_hourglasslaw17_awake f_route_New f_hourglassref10_Good f_route_Table_Of f_route_Table_Nodes f_hourglassref10_Cmp f_route_Table_Cover f_hourglassref10_Within)) is fr σ K := (rfl)
def C_hourglasslaw17_RouteWhole_k14 (f_hourglasslaw17_awake f_route_New f_hourglassref10_Good f_route_Table_Of f_route_Table_Nodes f_hourglassref10_Cmp f_route_Table_Cover f_hourglassref10_Within : FuncId) : LCode := (.seq (.seq (.sq [⟨some 18, none, .call (.f f_hourglasslaw17_awake) []⟩,
    ⟨some 19, none, .un .not (.t 18)⟩]) (.cond (.t 19) (.seq (.sq [⟨some 10, none, .mv true (.c (.bool false))⟩]) .ret) .skip)) (C_hourglasslaw17_RouteWhole_k13 f_hourglasslaw17_awake f_route_New f_hourglassref10_Good f_route_Table_Of f_route_Table_Nodes f_hourglassref10_Cmp f_route_Table_Cover f_hourglassref10_Within))
theorem u_C_hourglasslaw17_RouteWhole_k14 {C : CallW} {P : Program} {rd : Bool} {is : List Item} {fr : Fr} {σ : St} {K : KC} (f_hourglasslaw17_awake f_route_New f_hourglassref10_Good f_route_Table_Of f_route_Table_Nodes f_hourglassref10_Cmp f_route_Table_Cover f_hourglassref10_Within : FuncId) : runC C P rd (C_hourglasslaw17_RouteWhole_k14 f_hourglasslaw17_awake f_route_New f_hourglassref10_Good f_route_Table_Of f_route_Table_Nodes f_hourglassref10_Cmp f_route_Table_Cover f_hourglassref10_Within) is fr σ K = runC C P rd (.seq (.seq (.sq [⟨some 18, none, .call (.f f_hourglasslaw17_awake) []⟩,
    ⟨some 19, none, .un .not (.t 18)⟩]) (.cond (.t 19) (.seq (.sq [⟨some 10, none, .mv true (.c (.bool false))⟩]) .ret) .skip)) (C_hourglasslaw17_RouteWhole_k13 f_hourglasslaw17_awake f_route_New f_hourglassref10_Good f_route_Table_Of f_route_Table_Nodes f_hourglassref10_Cmp f_route_Table_Cover f_hourglassref10_Within)) is fr σ K := (rfl)
--U C_hourglasslaw17_RouteWhole u_C_hourglasslaw17_RouteWhole_k1, u_C_hourglasslaw17_RouteWhole_k2, u_C_hourglasslaw17_RouteWhole_k3, u_C_hourglasslaw17_RouteWhole_k4, u_C_hourglasslaw17_RouteWhole_k5, u_C_hourglasslaw17_RouteWhole_k6, u_C_hourglasslaw17_RouteWhole_k7, u_C_hourglasslaw17_RouteWhole_k8, u_C_hourglasslaw17_RouteWhole_k9, u_C_hourglasslaw17_RouteWhole_k10, u_C_hourglasslaw17_RouteWhole_k11, u_C_hourglasslaw17_RouteWhole_k12, u_C_hourglasslaw17_RouteWhole_k13, u_C_hourglasslaw17_RouteWhole_k14
def C_hourglasslaw17_RouteWhole (f_hourglasslaw17_awake f_route_New f_hourglassref10_Good f_route_Table_Of f_route_Table_Nodes f_hourglassref10_Cmp f_route_Table_Cover f_hourglassref10_Within : FuncId) : LFn :=
  ⟨109, [.t 10], (.seq (.sq [⟨some 6, none, .box false false (.t 1)⟩,
    ⟨some 7, none, .box false false (.t 2)⟩,
    ⟨some 8, none, .box false false (.t 3)⟩,
    ⟨some 9, none, .box false false (.t 4)⟩,
    ⟨some 10, none, .mv true (.c (.bool false))⟩]) (C_hourglasslaw17_RouteWhole_k14 f_hourglasslaw17_awake f_route_New f_hourglassref10_Good f_route_Table_Of f_route_Table_Nodes f_hourglassref10_Cmp f_route_Table_Cover f_hourglassref10_Within))⟩

end Go.AM
