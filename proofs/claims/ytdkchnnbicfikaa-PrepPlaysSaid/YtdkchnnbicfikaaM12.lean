import Derived.Test.YtdkchnnbicfikaaM11
import Derived.Test.YtdkchnnbicfikaaM10
set_option linter.unusedSimpArgs false
set_option linter.unusedVariables false
namespace Go.AM
open Go
open AV renaming undef → uu
set_option maxRecDepth 20000
theorem SrtS.at {C:CallW} {f:FuncId} {X:Array Int→Nat→Nat→Array Int} (h:SrtS C f X) {N:Nat} (n:Nat) (d:Array Int) (a b:Nat) (S:List (List AV)) (H:List HObj) (K:AV→St→Prop) (hS:S[n]? = some (flat iA d)) (hd:d.size=N) (h1:a≤b) (h2:b≤N) (h3:N≤2305843009213693952) (hK:K (.tup []) ⟨S.set n (flat iA (X d a b)),H⟩):C (.fn f) [.row (.stk n) 0 N N,.s (.int .i64 a),.s (.int .i64 b)] ⟨S,H⟩ K:=by
  subst hd; exact h n d a b S H K hS h1 h2 (by omega) hK
theorem SrtT.at {C:CallW} {f:FuncId} {X:Array Int→Nat→Nat→Array Int} (h:SrtT C f X) {N:Nat} (n:Nat) (d:Array Int) (a b:Nat) (S:List (List AV)) (H:List HObj) (K:AV→St→Prop) (hS:S[n]? = some (flat iA d)) (hd:d.size=N) (h1:a < b) (h2:b≤N) (h3:N≤2305843009213693952) (hK:K (.tup []) ⟨S.set n (flat iA (X d a b)),H⟩):C (.fn f) [.row (.stk n) 0 N N,.s (.int .i64 a),.s (.int .i64 b)] ⟨S,H⟩ K:=by
  subst hd; exact h n d a b S H K hS h1 h2 h3 hK
theorem ChpS.at {C:CallW} {f:FuncId} (h:ChpS C f) {N:Nat} (n:Nat) (d:Array Int) (a b:Nat) (S:List (List AV)) (H:List HObj) (K:AV→St→Prop) (hS:S[n]? = some (flat iA d)) (hd:d.size=N) (h1:a < b) (h2:b≤N) (h3:N≤2305843009213693952) (hK:K (.tup [.s (.int .i64 (Sort.choosePivot ltI d a b).1),.s (.int .i64 (hI (Sort.choosePivot ltI d a b).2))]) ⟨S,H⟩):C (.fn f) [.row (.stk n) 0 N N,.s (.int .i64 a),.s (.int .i64 b)] ⟨S,H⟩ K:=by
  subst hd; exact h n d a b S H K hS h1 h2 h3 hK
theorem PinS.at {C:CallW} {f:FuncId} (h:PinS C f) {N:Nat} (n:Nat) (d:Array Int) (a b:Nat) (S:List (List AV)) (H:List HObj) (K:AV→St→Prop) (hS:S[n]? = some (flat iA d)) (hd:d.size=N) (h1:a < b) (h2:b≤N) (h3:N≤2305843009213693952) (hK:K (.bool (Sort.partialInsertionSort ltI d a b).2) ⟨S.set n (flat iA (Sort.partialInsertionSort ltI d a b).1),H⟩):C (.fn f) [.row (.stk n) 0 N N,.s (.int .i64 a),.s (.int .i64 b)] ⟨S,H⟩ K:=by
  subst hd; exact h n d a b S H K hS h1 h2 h3 hK
theorem PeqS.at {C:CallW} {f:FuncId} (h:PeqS C f) {N:Nat} (n:Nat) (d:Array Int) (a b p:Nat) (S:List (List AV)) (H:List HObj) (K:AV→St→Prop) (hS:S[n]? = some (flat iA d)) (hd:d.size=N) (h0:a≤p) (h1:p < b) (h2:b≤N) (h3:N≤2305843009213693952) (hK:K (.s (.int .i64 (Sort.partitionEqual ltI d a b p).1)) ⟨S.set n (flat iA (Sort.partitionEqual ltI d a b p).2),H⟩):C (.fn f) [.row (.stk n) 0 N N,.s (.int .i64 a),.s (.int .i64 b),.s (.int .i64 p)] ⟨S,H⟩ K:=by
  subst hd; exact h n d a b p S H K hS h0 h1 h2 h3 hK
theorem PartS.at {C:CallW} {f:FuncId} (h:PartS C f) {N:Nat} (n:Nat) (d:Array Int) (a b p:Nat) (S:List (List AV)) (H:List HObj) (K:AV→St→Prop) (hS:S[n]? = some (flat iA d)) (hd:d.size=N) (h0:a≤p) (h1:p < b) (h2:b≤N) (h3:N≤2305843009213693952) (hK:K (.tup [.s (.int .i64 (Sort.partition ltI d a b p).1),.s (.bool (Sort.partition ltI d a b p).2.1)]) ⟨S.set n (flat iA (Sort.partition ltI d a b p).2.2),H⟩):C (.fn f) [.row (.stk n) 0 N N,.s (.int .i64 a),.s (.int .i64 b),.s (.int .i64 p)] ⟨S,H⟩ K:=by
  subst hd; exact h n d a b p S H K hS h0 h1 h2 h3 hK
def PdqS (C:CallW) (f:FuncId) (m:Nat):Prop:=∀(n:Nat) (d:Array Int) (a b lim:Nat) (S:List (List AV)) (H:List HObj) (K:AV→St→Prop),S[n]? = some (flat iA d)→a≤b→b≤d.size→d.size≤2305843009213693952→b - a < m→lim≤2305843009213693952→Sort.Below ltI a b d→(∀R,Sort.PermIn a b d R→Sort.SortedIn ltI a b R→K (.tup []) ⟨S.set n (flat iA R),H⟩)→C (.fn f) [.row (.stk n) 0 d.size d.size,.s (.int .i64 a),.s (.int .i64 b),.s (.int .i64 lim)] ⟨S,H⟩ K
theorem PdqS.at {C:CallW} {f:FuncId} {m:Nat} (h:PdqS C f m) {N:Nat} (n:Nat) (d:Array Int) (a b lim:Nat) (S:List (List AV)) (H:List HObj) (K:AV→St→Prop) (hS:S[n]? = some (flat iA d)) (hd:d.size=N) (h1:a≤b) (h2:b≤N) (h3:N≤2305843009213693952) (h4:b - a < m) (h5:lim≤2305843009213693952) (hB:Sort.Below ltI a b d) (hK:∀R,Sort.PermIn a b d R→Sort.SortedIn ltI a b R→K (.tup []) ⟨S.set n (flat iA R),H⟩):C (.fn f) [.row (.stk n) 0 N N,.s (.int .i64 a),.s (.int .i64 b),.s (.int .i64 lim)] ⟨S,H⟩ K:=by
  subst hd; exact h n d a b lim S H K hS h1 h2 h3 h4 h5 hB hK
set_option maxHeartbeats 16000000 in
theorem y9s19_run {C : CallW} (hC : LeC C C) (P : Program) {c : Nat → FuncId} {m : Nat} (h6 : LessS C (c 6)) (h7 : PeqS C (c 7)) (h8 : PartS C (c 8)) (h9 : PdqS C (c 9) m) {n N a b L lim piv n0 : Nat} {wb wp : Bool} {e : Array Int} {S : List (List AV)} {H : List HObj} {is : List Item} {K : KC} (hS : S[n]? = some (flat iA e)) (hn0 : n0 = S.length) (hes : e.size = N) (hap : a ≤ piv) (hpb : piv < b) (hb : b ≤ N) (hN : N ≤ 2305843009213693952) (hL : L ≤ N) (hlim : lim ≤ 2305843009213693952) (hm : b - a ≤ m) (hB : Sort.Below ltI a b e)
    (hloop:∀(a' b' lim':Nat) (wb' wp':Bool) (e':Array Int) (fr':Fr) (S':List (List AV)),keep (zm false [0,4,4,2,124]) fr'=[.row (.stk n) 0 N N,.s (.int .i64 (a':Nat)),.s (.int .i64 (b':Nat)),.s (.int .i64 (lim':Nat)),uu,uu,uu,uu,.s (.bool wb'),.s (.bool wp'),uu,uu,uu,uu,uu,uu,uu,uu,uu,uu,uu,uu,uu,uu,uu,uu,uu,uu,uu,uu,uu,uu,uu,uu,uu,uu,uu,uu,uu,uu,uu,uu,uu,uu,uu,uu,uu,uu,uu,uu,uu,uu,uu,uu,uu,uu,uu,uu,uu,uu,uu,uu,uu,uu,uu,uu,uu,uu,uu,uu,uu,uu,uu,uu,uu,uu,uu,uu,uu,uu,uu,uu,uu,uu,uu,uu,uu,uu,uu,uu,uu,uu,uu,uu,uu,uu,uu,uu,uu,uu,uu,uu,uu,uu,uu,uu,uu,uu,uu,uu,uu,uu,uu,uu,uu,uu,uu,uu,uu,uu,uu,uu,uu,uu,uu,uu,uu,uu,uu,uu,uu,uu,uu,uu]→S'.take n0=S.set n (flat iA e')→e'.size=N→b' - a' < b - a→a≤a'→b'≤b→a'≤b'→lim'≤2305843009213693952→Sort.Below ltI a' b' e'→(∀R,Sort.PermIn a' b' e' R→Sort.SortedIn ltI a' b' R→Sort.PermIn a b e R∧Sort.SortedIn ltI a b R)→runLp C P false (zm false [0,4,4,2,124]) (y9s26 c) n0 is fr' ⟨S',H⟩ K) :
    ∀(x4 x5 x6 x7 x12 x13 x14 x15 x16 x17 x18 x19 x20 x21 x22 x23 x24 x25 x26 x27 x28 x29 x30 x31 x32 x33 x34 x35 x36 x37 x38 x39 x40 x41 x42 x43 x44 x45 x46 x47 x48 x49 x50 x51 x52 x53 x54 x55 x56 x57 x58 x59 x60 x61 x62 x63 x64 x65 x66 x67 x68 x69 x70 x71 x72 x73 x74 x75 x76 x77 x78 x79 x80 x81 x82 x83 x84 x85 x86 x87 x88 x89 x90 x91 x92 x93 x94 x95 x96 x97 x98 x99 x100 x101 x102 x103 x104 x105 x106 x107 x108 x109 x110 x111 x112 x113 x114 x115 x116 x117 x118 x119 x120 x121 x122 x123 x124 x125 x126 x127 x128 x129 x130 x131 x132 x133:AV),runC C P false (y9s19 c) (.blk 1 :: .lp (zm false [0,4,4,2,124]) (y9s26 c) n0 :: is) [.row (.stk n) 0 N N,.s (.int .i64 (a:Nat)),.s (.int .i64 (b:Nat)),.s (.int .i64 (lim:Nat)),x4,x5,x6,x7,.s (.bool wb),.s (.bool wp),.s (.int .i64 (L:Nat)),.s (.int .i64 (piv:Nat)),x12,x13,x14,x15,x16,x17,x18,x19,x20,x21,x22,x23,x24,x25,x26,x27,x28,x29,x30,x31,x32,x33,x34,x35,x36,x37,x38,x39,x40,x41,x42,x43,x44,x45,x46,x47,x48,x49,x50,x51,x52,x53,x54,x55,x56,x57,x58,x59,x60,x61,x62,x63,x64,x65,x66,x67,x68,x69,x70,x71,x72,x73,x74,x75,x76,x77,x78,x79,x80,x81,x82,x83,x84,x85,x86,x87,x88,x89,x90,x91,x92,x93,x94,x95,x96,x97,x98,x99,x100,x101,x102,x103,x104,x105,x106,x107,x108,x109,x110,x111,x112,x113,x114,x115,x116,x117,x118,x119,x120,x121,x122,x123,x124,x125,x126,x127,x128,x129,x130,x131,x132,x133] ⟨S,H⟩ K:=by
  intro x4 x5 x6 x7 x12 x13 x14 x15 x16 x17 x18 x19 x20 x21 x22 x23 x24 x25 x26 x27 x28 x29 x30 x31 x32 x33 x34 x35 x36 x37 x38 x39 x40 x41 x42 x43 x44 x45 x46 x47 x48 x49 x50 x51 x52 x53 x54 x55 x56 x57 x58 x59 x60 x61 x62 x63 x64 x65 x66 x67 x68 x69 x70 x71 x72 x73 x74 x75 x76 x77 x78 x79 x80 x81 x82 x83 x84 x85 x86 x87 x88 x89 x90 x91 x92 x93 x94 x95 x96 x97 x98 x99 x100 x101 x102 x103 x104 x105 x106 x107 x108 x109 x110 x111 x112 x113 x114 x115 x116 x117 x118 x119 x120 x121 x122 x123 x124 x125 x126 x127 x128 x129 x130 x131 x132 x133
  have hn:=slt hS
  by_cases ha0:0 < a
  · have hlt:((0:Int) < (a:Int))=True:=eq_true (by omega)
    have hwa:IntKind.i64.wrap ((a:Int) - 1)=((a - 1:Nat):Int):=by rw [wrap_i64 (by omega) (by omega)]; omega
    have xa:∀kk:IntKind,indexAddrL (.sl 1) (.row (.stk n) 0 N N) (.s (.int kk ((a - 1:Nat):Int)))=some (.ptr (.stk n) (a - 1)):=fun kk=>ixi (by omega)
    have xb:∀kk:IntKind,indexAddrL (.sl 1) (.row (.stk n) 0 N N) (.s (.int kk (piv:Int)))=some (.ptr (.stk n) piv):=fun kk=>ixi (by omega)
    have ra:=ird (H:=H) hS (i:=a - 1) (by omega)
    have rb:=ird (H:=H) hS (i:=piv) (by omega)
    simp only [unfC (y9s8.eq_1 c),unfC (y9s9.eq_1 c),unfC (y9s10.eq_1 c),unfC (y9s11.eq_1 c),unfC (y9s12.eq_1 c),unfC (y9s13.eq_1 c),unfC (y9s14.eq_1 c),unfC (y9s15.eq_1 c),unfC (y9s16.eq_1 c),unfC (y9s17.eq_1 c),unfC (y9s18.eq_1 c),unfC (y9s19.eq_1 c),A_,simprocAttr,ne_eq,hlt,hwa,xa,xb,ra,rb]
    refine h6 _ _ _ _ _ ?_
    cases hlk:ltI e[a - 1]! e[piv]! with
    | false =>
      simp only [unfC (y9s8.eq_1 c),unfC (y9s9.eq_1 c),unfC (y9s10.eq_1 c),unfC (y9s11.eq_1 c),unfC (y9s12.eq_1 c),unfC (y9s13.eq_1 c),unfC (y9s14.eq_1 c),unfC (y9s15.eq_1 c),unfC (y9s16.eq_1 c),unfC (y9s17.eq_1 c),unfC (y9s18.eq_1 c),unfC (y9s19.eq_1 c),A_,simprocAttr,ne_eq]
      refine h7.at n e a b piv _ _ _ hS hes hap hpb hb hN ?_
      obtain ⟨⟨mid,d4⟩,hx⟩:∃r,Sort.partitionEqual ltI e a b piv=r:=⟨_,rfl⟩
      obtain ⟨g1,g2,hs4,hB4,hfin⟩:=Sort.round_eq Sort.swo_ltInt (Sort.partitionEqual_holds _) ha0 hap hpb (by omega) hB hlk hx
      have hx':Sort.partitionEqual ltI e a b piv=(mid,d4):=hx
      rw [hx']
      simp only [unfC (y9s8.eq_1 c),unfC (y9s9.eq_1 c),unfC (y9s10.eq_1 c),unfC (y9s11.eq_1 c),unfC (y9s12.eq_1 c),unfC (y9s13.eq_1 c),unfC (y9s14.eq_1 c),unfC (y9s15.eq_1 c),unfC (y9s16.eq_1 c),unfC (y9s17.eq_1 c),unfC (y9s18.eq_1 c),unfC (y9s19.eq_1 c),A_,simprocAttr,ne_eq]
      exact hloop mid b lim wb wp d4 _ _ (by simp [keep,zm]) (by rw [List.take_of_length_le]; simp [hn0]) (hs4.trans hes) (by omega) (by omega) (by omega) (by omega) hlim hB4 hfin
    | true =>
      simp only [unfC (y9s8.eq_1 c),unfC (y9s9.eq_1 c),unfC (y9s10.eq_1 c),unfC (y9s11.eq_1 c),unfC (y9s12.eq_1 c),unfC (y9s13.eq_1 c),unfC (y9s14.eq_1 c),unfC (y9s15.eq_1 c),unfC (y9s16.eq_1 c),unfC (y9s17.eq_1 c),unfC (y9s18.eq_1 c),unfC (y9s19.eq_1 c),A_,simprocAttr,ne_eq]
      refine h8.at n e a b piv _ _ _ hS hes hap hpb hb hN ?_
      obtain ⟨⟨mid,ap,d4⟩,hx⟩:∃r,Sort.partition ltI e a b piv=r:=⟨_,rfl⟩
      obtain ⟨g1,g2,hs4,hBa,hBr,hleft,hright⟩:=Sort.round_part Sort.swo_ltInt (Sort.partition_holds _) hap hpb (by omega) hB hx
      have hx':Sort.partition ltI e a b piv=(mid,ap,d4):=hx
      rw [hx']
      have hsz:d4.size=N:=hs4.trans hes
      have hml:IntKind.i64.wrap ((mid:Int) - (a:Int))=((mid - a:Nat):Int):=by rw [wrap_i64 (by omega) (by omega)]; omega
      have hmr:IntKind.i64.wrap ((b:Int) - (mid:Int))=((b - mid:Nat):Int):=by rw [wrap_i64 (by omega) (by omega)]; omega
      have hq:IntKind.i64.wrap ((L:Int).tdiv 8)=((L / 8:Nat):Int):=by rw [show ((L:Int).tdiv 8)=((L / 8:Nat):Int) from rfl,wrap_i64 (by omega) (by omega)]
      have hm1:IntKind.i64.wrap ((mid:Int) + 1)=((mid + 1:Nat):Int):=by rw [wrap_i64 (by omega) (by omega)]; omega
      by_cases hlr:mid - a < b - mid
      · have hlt2:(((mid - a:Nat):Int) < ((b - mid:Nat):Int))=True:=eq_true (by omega)
        simp only [unfC (y9s8.eq_1 c),unfC (y9s9.eq_1 c),unfC (y9s10.eq_1 c),unfC (y9s11.eq_1 c),unfC (y9s12.eq_1 c),unfC (y9s13.eq_1 c),unfC (y9s14.eq_1 c),unfC (y9s15.eq_1 c),unfC (y9s16.eq_1 c),unfC (y9s17.eq_1 c),unfC (y9s18.eq_1 c),unfC (y9s19.eq_1 c),A_,simprocAttr,ne_eq,hml,hmr,hq,hm1,hlt2]
        refine h9.at n d4 a mid lim _ _ _ (sset hS) hsz g1 (by omega) hN (by omega) hlim hBa fun R hR hsR => ?_
        rw [List.set_set]
        obtain ⟨hBL,hfin⟩:=hleft R hR hsR
        simp only [unfC (y9s8.eq_1 c),unfC (y9s9.eq_1 c),unfC (y9s10.eq_1 c),unfC (y9s11.eq_1 c),unfC (y9s12.eq_1 c),unfC (y9s13.eq_1 c),unfC (y9s14.eq_1 c),unfC (y9s15.eq_1 c),unfC (y9s16.eq_1 c),unfC (y9s17.eq_1 c),unfC (y9s18.eq_1 c),unfC (y9s19.eq_1 c),A_,simprocAttr,ne_eq,hml,hmr,hq,hm1,hlt2]
        exact hloop (mid + 1) b lim (decide (((L / 8:Nat):Int)≤((mid - a:Nat):Int))) ap R _ _ (by simp [keep,zm]) (by rw [List.take_of_length_le]; simp [hn0]) (hR.1.trans hsz) (by omega) (by omega) (by omega) (by omega) hlim hBL hfin
      · have hlt2:(((mid - a:Nat):Int) < ((b - mid:Nat):Int))=False:=eq_false (by omega)
        simp only [unfC (y9s8.eq_1 c),unfC (y9s9.eq_1 c),unfC (y9s10.eq_1 c),unfC (y9s11.eq_1 c),unfC (y9s12.eq_1 c),unfC (y9s13.eq_1 c),unfC (y9s14.eq_1 c),unfC (y9s15.eq_1 c),unfC (y9s16.eq_1 c),unfC (y9s17.eq_1 c),unfC (y9s18.eq_1 c),unfC (y9s19.eq_1 c),A_,simprocAttr,ne_eq,hml,hmr,hq,hm1,hlt2]
        refine h9.at n d4 (mid + 1) b lim _ _ _ (sset hS) hsz (by omega) (by omega) hN (by omega) hlim hBr fun R hR hsR => ?_
        rw [List.set_set]
        obtain ⟨hBL,hfin⟩:=hright R hR hsR
        simp only [unfC (y9s8.eq_1 c),unfC (y9s9.eq_1 c),unfC (y9s10.eq_1 c),unfC (y9s11.eq_1 c),unfC (y9s12.eq_1 c),unfC (y9s13.eq_1 c),unfC (y9s14.eq_1 c),unfC (y9s15.eq_1 c),unfC (y9s16.eq_1 c),unfC (y9s17.eq_1 c),unfC (y9s18.eq_1 c),unfC (y9s19.eq_1 c),A_,simprocAttr,ne_eq,hml,hmr,hq,hm1,hlt2]
        exact hloop a mid lim (decide (((L / 8:Nat):Int)≤((b - mid:Nat):Int))) ap R _ _ (by simp [keep,zm]) (by rw [List.take_of_length_le]; simp [hn0]) (hR.1.trans hsz) (by omega) (by omega) (by omega) (by omega) hlim hBL hfin
  · have hlt:((0:Int) < (a:Int))=False:=eq_false (by omega)
    simp only [unfC (y9s8.eq_1 c),unfC (y9s9.eq_1 c),unfC (y9s10.eq_1 c),unfC (y9s11.eq_1 c),unfC (y9s12.eq_1 c),unfC (y9s13.eq_1 c),unfC (y9s14.eq_1 c),unfC (y9s15.eq_1 c),unfC (y9s16.eq_1 c),unfC (y9s17.eq_1 c),unfC (y9s18.eq_1 c),unfC (y9s19.eq_1 c),A_,simprocAttr,ne_eq,hlt]
    refine h8.at n e a b piv _ _ _ hS hes hap hpb hb hN ?_
    obtain ⟨⟨mid,ap,d4⟩,hx⟩:∃r,Sort.partition ltI e a b piv=r:=⟨_,rfl⟩
    obtain ⟨g1,g2,hs4,hBa,hBr,hleft,hright⟩:=Sort.round_part Sort.swo_ltInt (Sort.partition_holds _) hap hpb (by omega) hB hx
    have hx':Sort.partition ltI e a b piv=(mid,ap,d4):=hx
    rw [hx']
    have hsz:d4.size=N:=hs4.trans hes
    have hml:IntKind.i64.wrap ((mid:Int) - (a:Int))=((mid - a:Nat):Int):=by rw [wrap_i64 (by omega) (by omega)]; omega
    have hmr:IntKind.i64.wrap ((b:Int) - (mid:Int))=((b - mid:Nat):Int):=by rw [wrap_i64 (by omega) (by omega)]; omega
    have hq:IntKind.i64.wrap ((L:Int).tdiv 8)=((L / 8:Nat):Int):=by rw [show ((L:Int).tdiv 8)=((L / 8:Nat):Int) from rfl,wrap_i64 (by omega) (by omega)]
    have hm1:IntKind.i64.wrap ((mid:Int) + 1)=((mid + 1:Nat):Int):=by rw [wrap_i64 (by omega) (by omega)]; omega
    by_cases hlr:mid - a < b - mid
    · have hlt2:(((mid - a:Nat):Int) < ((b - mid:Nat):Int))=True:=eq_true (by omega)
      simp only [unfC (y9s8.eq_1 c),unfC (y9s9.eq_1 c),unfC (y9s10.eq_1 c),unfC (y9s11.eq_1 c),unfC (y9s12.eq_1 c),unfC (y9s13.eq_1 c),unfC (y9s14.eq_1 c),unfC (y9s15.eq_1 c),unfC (y9s16.eq_1 c),unfC (y9s17.eq_1 c),unfC (y9s18.eq_1 c),unfC (y9s19.eq_1 c),A_,simprocAttr,ne_eq,hml,hmr,hq,hm1,hlt2]
      refine h9.at n d4 a mid lim _ _ _ (sset hS) hsz g1 (by omega) hN (by omega) hlim hBa fun R hR hsR => ?_
      rw [List.set_set]
      obtain ⟨hBL,hfin⟩:=hleft R hR hsR
      simp only [unfC (y9s8.eq_1 c),unfC (y9s9.eq_1 c),unfC (y9s10.eq_1 c),unfC (y9s11.eq_1 c),unfC (y9s12.eq_1 c),unfC (y9s13.eq_1 c),unfC (y9s14.eq_1 c),unfC (y9s15.eq_1 c),unfC (y9s16.eq_1 c),unfC (y9s17.eq_1 c),unfC (y9s18.eq_1 c),unfC (y9s19.eq_1 c),A_,simprocAttr,ne_eq,hml,hmr,hq,hm1,hlt2]
      exact hloop (mid + 1) b lim (decide (((L / 8:Nat):Int)≤((mid - a:Nat):Int))) ap R _ _ (by simp [keep,zm]) (by rw [List.take_of_length_le]; simp [hn0]) (hR.1.trans hsz) (by omega) (by omega) (by omega) (by omega) hlim hBL hfin
    · have hlt2:(((mid - a:Nat):Int) < ((b - mid:Nat):Int))=False:=eq_false (by omega)
      simp only [unfC (y9s8.eq_1 c),unfC (y9s9.eq_1 c),unfC (y9s10.eq_1 c),unfC (y9s11.eq_1 c),unfC (y9s12.eq_1 c),unfC (y9s13.eq_1 c),unfC (y9s14.eq_1 c),unfC (y9s15.eq_1 c),unfC (y9s16.eq_1 c),unfC (y9s17.eq_1 c),unfC (y9s18.eq_1 c),unfC (y9s19.eq_1 c),A_,simprocAttr,ne_eq,hml,hmr,hq,hm1,hlt2]
      refine h9.at n d4 (mid + 1) b lim _ _ _ (sset hS) hsz (by omega) (by omega) hN (by omega) hlim hBr fun R hR hsR => ?_
      rw [List.set_set]
      obtain ⟨hBL,hfin⟩:=hright R hR hsR
      simp only [unfC (y9s8.eq_1 c),unfC (y9s9.eq_1 c),unfC (y9s10.eq_1 c),unfC (y9s11.eq_1 c),unfC (y9s12.eq_1 c),unfC (y9s13.eq_1 c),unfC (y9s14.eq_1 c),unfC (y9s15.eq_1 c),unfC (y9s16.eq_1 c),unfC (y9s17.eq_1 c),unfC (y9s18.eq_1 c),unfC (y9s19.eq_1 c),A_,simprocAttr,ne_eq,hml,hmr,hq,hm1,hlt2]
      exact hloop a mid lim (decide (((L / 8:Nat):Int)≤((b - mid:Nat):Int))) ap R _ _ (by simp [keep,zm]) (by rw [List.take_of_length_le]; simp [hn0]) (hR.1.trans hsz) (by omega) (by omega) (by omega) (by omega) hlim hBL hfin
set_option maxHeartbeats 32000000 in
theorem pdqsort_spec {C:CallW} (hC:LeC C C) (P:Program) {c:Nat→FuncId} {m:Nat} (h0:SrtS C (c 0) (Sort.insertionSort ltI)) (h1:SrtT C (c 1) (Sort.heapSort ltI)) (h2:SrtT C (c 2) Sort.breakPatterns) (h3:ChpS C (c 3)) (h4:SrtT C (c 4) Sort.reverseRange) (h5:PinS C (c 5)) (h6:LessS C (c 6)) (h7:PeqS C (c 7)) (h8:PartS C (c 8)) (h9:PdqS C (c 9) m):∀(n:Nat) (d:Array Int) (a b lim:Nat) (S:List (List AV)) (H:List HObj) (K:AV→St→Prop),S[n]? = some (flat iA d)→a≤b→b≤d.size→d.size≤2305843009213693952→b - a < m + 1→lim≤2305843009213693952→Sort.Below ltI a b d→(∀R,Sort.PermIn a b d R→Sort.SortedIn ltI a b R→K (.tup []) ⟨S.set n (flat iA R),H⟩)→runL C P (C_slices_pdqsortOrdered_int64 c) [.row (.stk n) 0 d.size d.size,.s (.int .i64 a),.s (.int .i64 b),.s (.int .i64 lim)] ⟨S,H⟩ K:=by
  intro n d a0 b0 lim0 S H K hS hab0 hbd0 hdl hm0 hlim0 hB0 hK
  have hn:=slt hS
  obtain ⟨N,hN0⟩:∃N,d.size=N:=⟨_,rfl⟩
  rw [hN0] at hbd0 hdl ⊢
  have hN:N≤2305843009213693952:=hdl
  simp only [C_slices_pdqsortOrdered_int64,unfC (y9s1.eq_1 c),unfC (y9s2.eq_1 c),unfC (y9s3.eq_1 c),unfC (y9s4.eq_1 c),unfC (y9s5.eq_1 c),unfC (y9s6.eq_1 c),unfC (y9s7.eq_1 c),unfC (y9s20.eq_1 c),unfC (y9s21.eq_1 c),unfC (y9s22.eq_1 c),unfC (y9s23.eq_1 c),unfC (y9s24.eq_1 c),unfC (y9s25.eq_1 c),unfC (y9s26.eq_1 c),unfC (y9s27.eq_1 c),A_,simprocAttr,ne_eq]
  refine loop_rule hC (α:=Nat×Nat×Nat×Bool×Bool×Array Int) (fun x=>x.2.1 - x.1) (fun x=>[.row (.stk n) 0 N N,.s (.int .i64 (x.1:Nat)),.s (.int .i64 (x.2.1:Nat)),.s (.int .i64 (x.2.2.1:Nat)),uu,uu,uu,uu,.s (.bool x.2.2.2.1),.s (.bool x.2.2.2.2.1),uu,uu,uu,uu,uu,uu,uu,uu,uu,uu,uu,uu,uu,uu,uu,uu,uu,uu,uu,uu,uu,uu,uu,uu,uu,uu,uu,uu,uu,uu,uu,uu,uu,uu,uu,uu,uu,uu,uu,uu,uu,uu,uu,uu,uu,uu,uu,uu,uu,uu,uu,uu,uu,uu,uu,uu,uu,uu,uu,uu,uu,uu,uu,uu,uu,uu,uu,uu,uu,uu,uu,uu,uu,uu,uu,uu,uu,uu,uu,uu,uu,uu,uu,uu,uu,uu,uu,uu,uu,uu,uu,uu,uu,uu,uu,uu,uu,uu,uu,uu,uu,uu,uu,uu,uu,uu,uu,uu,uu,uu,uu,uu,uu,uu,uu,uu,uu,uu,uu,uu,uu,uu,uu,uu]) (fun x=>S.set n (flat iA x.2.2.2.2.2)) (fun _=>H) (fun x=>x.1≤x.2.1∧x.2.1≤N∧x.2.2.2.2.2.size=N∧x.2.2.1≤2305843009213693952∧x.2.1 - x.1≤b0 - a0∧Sort.Below ltI x.1 x.2.1 x.2.2.2.2.2∧∀R,Sort.PermIn x.1 x.2.1 x.2.2.2.2.2 R→Sort.SortedIn ltI x.1 x.2.1 R→Sort.PermIn a0 b0 d R∧Sort.SortedIn ltI a0 b0 R) (a0,b0,lim0,true,true,d) ⟨hab0,hbd0,hN0,hlim0,Nat.le_refl _,hB0,fun R h1 h2=>⟨h1,h2⟩⟩ (by simp [keep,zm]) (by rw [sself hS,List.take_of_length_le (Nat.le_refl _)]) rfl (fun x _=>by simp [AV.under,AV.under.go,hn]) ?_
  rintro ⟨a,b,lim,wb,wp,e⟩ ⟨hab,hbN,hes,hlim,hba,hB,hfin⟩ ih
  dsimp only at hab hbN hes hlim hba hB hfin ih ⊢
  have hbe:b≤e.size:=by omega
  have hw0:IntKind.i64.wrap ((b:Int) - (a:Int))=((b - a:Nat):Int):=by rw [wrap_i64 (by omega) (by omega)]; omega
  have hSe:(S.set n (flat iA e))[n]? = some (flat iA e):=sset hS
  by_cases h12:b - a≤12
  · have hlt:(((b - a:Nat):Int)≤12)=True:=eq_true (by omega)
    simp only [unfC (y9s1.eq_1 c),unfC (y9s2.eq_1 c),unfC (y9s3.eq_1 c),unfC (y9s4.eq_1 c),unfC (y9s5.eq_1 c),unfC (y9s6.eq_1 c),unfC (y9s7.eq_1 c),unfC (y9s20.eq_1 c),unfC (y9s21.eq_1 c),unfC (y9s22.eq_1 c),unfC (y9s23.eq_1 c),unfC (y9s24.eq_1 c),unfC (y9s25.eq_1 c),unfC (y9s26.eq_1 c),unfC (y9s27.eq_1 c),A_,simprocAttr,ne_eq,hw0,hlt]
    refine h0.at n e a b _ _ _ hSe hes hab hbN hN ?_
    rw [List.set_set]
    obtain ⟨q1,q2⟩:=Sort.insertionSort_holds Sort.swo_ltInt e a b hab hbe
    obtain ⟨q3,q4⟩:=hfin _ q1 q2
    simp only [unfC (y9s1.eq_1 c),unfC (y9s2.eq_1 c),unfC (y9s3.eq_1 c),unfC (y9s4.eq_1 c),unfC (y9s5.eq_1 c),unfC (y9s6.eq_1 c),unfC (y9s7.eq_1 c),unfC (y9s20.eq_1 c),unfC (y9s21.eq_1 c),unfC (y9s22.eq_1 c),unfC (y9s23.eq_1 c),unfC (y9s24.eq_1 c),unfC (y9s25.eq_1 c),unfC (y9s26.eq_1 c),unfC (y9s27.eq_1 c),A_,simprocAttr,ne_eq]
    exact hK _ q3 q4
  have hlt:(((b - a:Nat):Int)≤12)=False:=eq_false (by omega)
  by_cases hl0:lim=0
  · subst hl0
    have hlt0:(((0:Nat):Int)=0)=True:=eq_true rfl
    simp only [unfC (y9s1.eq_1 c),unfC (y9s2.eq_1 c),unfC (y9s3.eq_1 c),unfC (y9s4.eq_1 c),unfC (y9s5.eq_1 c),unfC (y9s6.eq_1 c),unfC (y9s7.eq_1 c),unfC (y9s20.eq_1 c),unfC (y9s21.eq_1 c),unfC (y9s22.eq_1 c),unfC (y9s23.eq_1 c),unfC (y9s24.eq_1 c),unfC (y9s25.eq_1 c),unfC (y9s26.eq_1 c),unfC (y9s27.eq_1 c),A_,simprocAttr,ne_eq,hw0,hlt,hlt0]
    refine h1.at n e a b _ _ _ hSe hes (by omega) hbN hN ?_
    rw [List.set_set]
    obtain ⟨q1,q2⟩:=Sort.heapSort_holds Sort.swo_ltInt e a b hab hbe
    obtain ⟨q3,q4⟩:=hfin _ q1 q2
    simp only [unfC (y9s1.eq_1 c),unfC (y9s2.eq_1 c),unfC (y9s3.eq_1 c),unfC (y9s4.eq_1 c),unfC (y9s5.eq_1 c),unfC (y9s6.eq_1 c),unfC (y9s7.eq_1 c),unfC (y9s20.eq_1 c),unfC (y9s21.eq_1 c),unfC (y9s22.eq_1 c),unfC (y9s23.eq_1 c),unfC (y9s24.eq_1 c),unfC (y9s25.eq_1 c),unfC (y9s26.eq_1 c),unfC (y9s27.eq_1 c),A_,simprocAttr,ne_eq]
    exact hK _ q3 q4
  have hlt0:((lim:Int)=0)=False:=eq_false (by omega)
  have loop2:∀(e2:Array Int),Sort.PermIn a b e e2→∀(a' b' lim':Nat) (wb' wp':Bool) (e':Array Int) (fr':Fr) (S':List (List AV)),keep (zm false [0,4,4,2,124]) fr'=[.row (.stk n) 0 N N,.s (.int .i64 (a':Nat)),.s (.int .i64 (b':Nat)),.s (.int .i64 (lim':Nat)),uu,uu,uu,uu,.s (.bool wb'),.s (.bool wp'),uu,uu,uu,uu,uu,uu,uu,uu,uu,uu,uu,uu,uu,uu,uu,uu,uu,uu,uu,uu,uu,uu,uu,uu,uu,uu,uu,uu,uu,uu,uu,uu,uu,uu,uu,uu,uu,uu,uu,uu,uu,uu,uu,uu,uu,uu,uu,uu,uu,uu,uu,uu,uu,uu,uu,uu,uu,uu,uu,uu,uu,uu,uu,uu,uu,uu,uu,uu,uu,uu,uu,uu,uu,uu,uu,uu,uu,uu,uu,uu,uu,uu,uu,uu,uu,uu,uu,uu,uu,uu,uu,uu,uu,uu,uu,uu,uu,uu,uu,uu,uu,uu,uu,uu,uu,uu,uu,uu,uu,uu,uu,uu,uu,uu,uu,uu,uu,uu,uu,uu,uu,uu,uu,uu]→S'.take S.length=(S.set n (flat iA e2)).set n (flat iA e')→e'.size=N→b' - a' < b - a→a≤a'→b'≤b→a'≤b'→lim'≤2305843009213693952→Sort.Below ltI a' b' e'→(∀R,Sort.PermIn a' b' e' R→Sort.SortedIn ltI a' b' R→Sort.PermIn a b e2 R∧Sort.SortedIn ltI a b R)→runLp C P false (zm false [0,4,4,2,124]) (y9s26 c) S.length [Item.blk 0] fr' ⟨S',H⟩ (fin S.length [] K):=by
    intro e2 hp a' b' lim' wb' wp' e' fr' S' k1 k2 k3 k4 k5 k6 k7 k8 k9 k10
    rw [List.set_set] at k2
    exact ih (a',b',lim',wb',wp',e') fr' S' H k4 ⟨k7,by dsimp only; omega,k3,k8,by dsimp only; omega,k9,fun R r1 r2=>by
      obtain ⟨q1,q2⟩:=k10 R r1 r2
      exact hfin R (Sort.permIn_trans _ _ _ _ _ hp q1) q2⟩ k1 k2 rfl
  have Sset2:∀z:Array Int,(S.set n (flat iA z))[n]? = some (flat iA z):=fun z=>sset hS
  have hlen:∀z:Array Int,S.length=(S.set n (flat iA z)).length:=fun z=>by simp
  have hwb1:IntKind.i64.wrap ((b:Int) - 1)=((b - 1:Nat):Int):=by rw [wrap_i64 (by omega) (by omega)]; omega
  have hwl1:IntKind.i64.wrap ((lim:Int) - 1)=((lim - 1:Nat):Int):=by rw [wrap_i64 (by omega) (by omega)]; omega
  have fin2:∀(e2:Array Int),Sort.PermIn a b e e2→e2.size=N∧b≤e2.size∧Sort.Below ltI a b e2:=fun e2 hp=>⟨hp.1.trans hes,by rw [hp.1]; exact hbe,hB.perm hbe hp⟩
  cases wb with
  | false =>
    simp only [unfC (y9s1.eq_1 c),unfC (y9s2.eq_1 c),unfC (y9s3.eq_1 c),unfC (y9s4.eq_1 c),unfC (y9s5.eq_1 c),unfC (y9s6.eq_1 c),unfC (y9s7.eq_1 c),unfC (y9s20.eq_1 c),unfC (y9s21.eq_1 c),unfC (y9s22.eq_1 c),unfC (y9s23.eq_1 c),unfC (y9s24.eq_1 c),unfC (y9s25.eq_1 c),unfC (y9s26.eq_1 c),unfC (y9s27.eq_1 c),A_,simprocAttr,ne_eq,hw0,hlt,hlt0]
    refine h2.at n e a b _ _ _ hSe hes (by omega) hbN hN ?_
    rw [List.set_set]
    have p1:=Sort.breakPatterns_holds e a b hab hbe
    generalize Sort.breakPatterns e a b=e1 at p1 ⊢
    obtain ⟨s1,b1,B1⟩:=fin2 e1 p1
    simp only [unfC (y9s1.eq_1 c),unfC (y9s2.eq_1 c),unfC (y9s3.eq_1 c),unfC (y9s4.eq_1 c),unfC (y9s5.eq_1 c),unfC (y9s6.eq_1 c),unfC (y9s7.eq_1 c),unfC (y9s20.eq_1 c),unfC (y9s21.eq_1 c),unfC (y9s22.eq_1 c),unfC (y9s23.eq_1 c),unfC (y9s24.eq_1 c),unfC (y9s25.eq_1 c),unfC (y9s26.eq_1 c),unfC (y9s27.eq_1 c),A_,simprocAttr,ne_eq,hwl1]
    refine h3.at n e1 a b _ _ _ (Sset2 e1) s1 (by omega) hbN hN ?_
    obtain ⟨u1,u2⟩:=Sort.choosePivot_holds ltI e1 a b (by omega)
    generalize Sort.choosePivot ltI e1 a b=cp at u1 u2 ⊢
    obtain ⟨piv,hint⟩:=cp
    dsimp only at u1 u2 ⊢
    cases hint with
    | unknown =>
      simp only [unfC (y9s1.eq_1 c),unfC (y9s2.eq_1 c),unfC (y9s3.eq_1 c),unfC (y9s4.eq_1 c),unfC (y9s5.eq_1 c),unfC (y9s6.eq_1 c),unfC (y9s7.eq_1 c),unfC (y9s20.eq_1 c),unfC (y9s21.eq_1 c),unfC (y9s22.eq_1 c),unfC (y9s23.eq_1 c),unfC (y9s24.eq_1 c),unfC (y9s25.eq_1 c),unfC (y9s26.eq_1 c),unfC (y9s27.eq_1 c),A_,simprocAttr,ne_eq,hI]
      exact y9s19_run hC P h6 h7 h8 h9 (Sset2 e1) (hlen e1) s1 u1 u2 hbN hN (by omega) (by omega) (by omega) B1 (loop2 e1 p1) _ _ _ _ _ _ _ _ _ _ _ _ _ _ _ _ _ _ _ _ _ _ _ _ _ _ _ _ _ _ _ _ _ _ _ _ _ _ _ _ _ _ _ _ _ _ _ _ _ _ _ _ _ _ _ _ _ _ _ _ _ _ _ _ _ _ _ _ _ _ _ _ _ _ _ _ _ _ _ _ _ _ _ _ _ _ _ _ _ _ _ _ _ _ _ _ _ _ _ _ _ _ _ _ _ _ _ _ _ _ _ _ _ _ _ _ _ _ _ _ _ _ _ _ _ _
    | increasing =>
      simp only [unfC (y9s1.eq_1 c),unfC (y9s2.eq_1 c),unfC (y9s3.eq_1 c),unfC (y9s4.eq_1 c),unfC (y9s5.eq_1 c),unfC (y9s6.eq_1 c),unfC (y9s7.eq_1 c),unfC (y9s20.eq_1 c),unfC (y9s21.eq_1 c),unfC (y9s22.eq_1 c),unfC (y9s23.eq_1 c),unfC (y9s24.eq_1 c),unfC (y9s25.eq_1 c),unfC (y9s26.eq_1 c),unfC (y9s27.eq_1 c),A_,simprocAttr,ne_eq,hI]
      exact y9s19_run hC P h6 h7 h8 h9 (Sset2 e1) (hlen e1) s1 u1 u2 hbN hN (by omega) (by omega) (by omega) B1 (loop2 e1 p1) _ _ _ _ _ _ _ _ _ _ _ _ _ _ _ _ _ _ _ _ _ _ _ _ _ _ _ _ _ _ _ _ _ _ _ _ _ _ _ _ _ _ _ _ _ _ _ _ _ _ _ _ _ _ _ _ _ _ _ _ _ _ _ _ _ _ _ _ _ _ _ _ _ _ _ _ _ _ _ _ _ _ _ _ _ _ _ _ _ _ _ _ _ _ _ _ _ _ _ _ _ _ _ _ _ _ _ _ _ _ _ _ _ _ _ _ _ _ _ _ _ _ _ _ _ _
    | decreasing =>
      have hwp:IntKind.i64.wrap ((piv:Int) - (a:Int))=((piv - a:Nat):Int):=by rw [wrap_i64 (by omega) (by omega)]; omega
      have hwp2:IntKind.i64.wrap (((b - 1:Nat):Int) - ((piv - a:Nat):Int))=((b - 1 - (piv - a):Nat):Int):=by rw [wrap_i64 (by omega) (by omega)]; omega
      simp only [unfC (y9s1.eq_1 c),unfC (y9s2.eq_1 c),unfC (y9s3.eq_1 c),unfC (y9s4.eq_1 c),unfC (y9s5.eq_1 c),unfC (y9s6.eq_1 c),unfC (y9s7.eq_1 c),unfC (y9s20.eq_1 c),unfC (y9s21.eq_1 c),unfC (y9s22.eq_1 c),unfC (y9s23.eq_1 c),unfC (y9s24.eq_1 c),unfC (y9s25.eq_1 c),unfC (y9s26.eq_1 c),unfC (y9s27.eq_1 c),A_,simprocAttr,ne_eq,hI]
      refine h4.at n e1 a b _ _ _ (Sset2 e1) s1 (by omega) hbN hN ?_
      rw [List.set_set]
      have p2:=Sort.reverseRange_holds e1 a b hab b1
      generalize Sort.reverseRange e1 a b=e2 at p2 ⊢
      have p3:=Sort.permIn_trans _ _ _ _ _ p1 p2
      obtain ⟨s2,b2,B2⟩:=fin2 e2 p3
      simp only [unfC (y9s1.eq_1 c),unfC (y9s2.eq_1 c),unfC (y9s3.eq_1 c),unfC (y9s4.eq_1 c),unfC (y9s5.eq_1 c),unfC (y9s6.eq_1 c),unfC (y9s7.eq_1 c),unfC (y9s20.eq_1 c),unfC (y9s21.eq_1 c),unfC (y9s22.eq_1 c),unfC (y9s23.eq_1 c),unfC (y9s24.eq_1 c),unfC (y9s25.eq_1 c),unfC (y9s26.eq_1 c),unfC (y9s27.eq_1 c),A_,simprocAttr,ne_eq,hwb1,hwp,hwp2]
      exact y9s19_run hC P h6 h7 h8 h9 (Sset2 e2) (hlen e2) s2 (by omega) (by omega) hbN hN (by omega) (by omega) (by omega) B2 (loop2 e2 p3) _ _ _ _ _ _ _ _ _ _ _ _ _ _ _ _ _ _ _ _ _ _ _ _ _ _ _ _ _ _ _ _ _ _ _ _ _ _ _ _ _ _ _ _ _ _ _ _ _ _ _ _ _ _ _ _ _ _ _ _ _ _ _ _ _ _ _ _ _ _ _ _ _ _ _ _ _ _ _ _ _ _ _ _ _ _ _ _ _ _ _ _ _ _ _ _ _ _ _ _ _ _ _ _ _ _ _ _ _ _ _ _ _ _ _ _ _ _ _ _ _ _ _ _ _ _
  | true =>
    simp only [unfC (y9s1.eq_1 c),unfC (y9s2.eq_1 c),unfC (y9s3.eq_1 c),unfC (y9s4.eq_1 c),unfC (y9s5.eq_1 c),unfC (y9s6.eq_1 c),unfC (y9s7.eq_1 c),unfC (y9s20.eq_1 c),unfC (y9s21.eq_1 c),unfC (y9s22.eq_1 c),unfC (y9s23.eq_1 c),unfC (y9s24.eq_1 c),unfC (y9s25.eq_1 c),unfC (y9s26.eq_1 c),unfC (y9s27.eq_1 c),A_,simprocAttr,ne_eq,hw0,hlt,hlt0]
    refine h3.at n e a b _ _ _ hSe hes (by omega) hbN hN ?_
    obtain ⟨u1,u2⟩:=Sort.choosePivot_holds ltI e a b (by omega)
    generalize Sort.choosePivot ltI e a b=cp at u1 u2 ⊢
    obtain ⟨piv,hint⟩:=cp
    dsimp only at u1 u2 ⊢
    have p0:=Sort.permIn_refl e a b
    obtain ⟨piv2,e1,p1,v1,v2,hst⟩:∃(piv2:Nat) (e1:Array Int),Sort.PermIn a b e e1∧a≤piv2∧piv2 < b∧True:=⟨piv,e,p0,u1,u2,trivial⟩
    clear hst v1 v2 p1 e1 piv2
    cases hint with
    | unknown =>
      cases wp <;>
      · simp only [unfC (y9s1.eq_1 c),unfC (y9s2.eq_1 c),unfC (y9s3.eq_1 c),unfC (y9s4.eq_1 c),unfC (y9s5.eq_1 c),unfC (y9s6.eq_1 c),unfC (y9s7.eq_1 c),unfC (y9s20.eq_1 c),unfC (y9s21.eq_1 c),unfC (y9s22.eq_1 c),unfC (y9s23.eq_1 c),unfC (y9s24.eq_1 c),unfC (y9s25.eq_1 c),unfC (y9s26.eq_1 c),unfC (y9s27.eq_1 c),A_,simprocAttr,ne_eq,hI]
        exact y9s19_run hC P h6 h7 h8 h9 hSe (hlen e) hes u1 u2 hbN hN (by omega) hlim (by omega) hB (loop2 e p0) _ _ _ _ _ _ _ _ _ _ _ _ _ _ _ _ _ _ _ _ _ _ _ _ _ _ _ _ _ _ _ _ _ _ _ _ _ _ _ _ _ _ _ _ _ _ _ _ _ _ _ _ _ _ _ _ _ _ _ _ _ _ _ _ _ _ _ _ _ _ _ _ _ _ _ _ _ _ _ _ _ _ _ _ _ _ _ _ _ _ _ _ _ _ _ _ _ _ _ _ _ _ _ _ _ _ _ _ _ _ _ _ _ _ _ _ _ _ _ _ _ _ _ _ _ _
    | increasing =>
      cases wp with
      | false =>
        simp only [unfC (y9s1.eq_1 c),unfC (y9s2.eq_1 c),unfC (y9s3.eq_1 c),unfC (y9s4.eq_1 c),unfC (y9s5.eq_1 c),unfC (y9s6.eq_1 c),unfC (y9s7.eq_1 c),unfC (y9s20.eq_1 c),unfC (y9s21.eq_1 c),unfC (y9s22.eq_1 c),unfC (y9s23.eq_1 c),unfC (y9s24.eq_1 c),unfC (y9s25.eq_1 c),unfC (y9s26.eq_1 c),unfC (y9s27.eq_1 c),A_,simprocAttr,ne_eq,hI]
        exact y9s19_run hC P h6 h7 h8 h9 hSe (hlen e) hes u1 u2 hbN hN (by omega) hlim (by omega) hB (loop2 e p0) _ _ _ _ _ _ _ _ _ _ _ _ _ _ _ _ _ _ _ _ _ _ _ _ _ _ _ _ _ _ _ _ _ _ _ _ _ _ _ _ _ _ _ _ _ _ _ _ _ _ _ _ _ _ _ _ _ _ _ _ _ _ _ _ _ _ _ _ _ _ _ _ _ _ _ _ _ _ _ _ _ _ _ _ _ _ _ _ _ _ _ _ _ _ _ _ _ _ _ _ _ _ _ _ _ _ _ _ _ _ _ _ _ _ _ _ _ _ _ _ _ _ _ _ _ _
      | true =>
        simp only [unfC (y9s1.eq_1 c),unfC (y9s2.eq_1 c),unfC (y9s3.eq_1 c),unfC (y9s4.eq_1 c),unfC (y9s5.eq_1 c),unfC (y9s6.eq_1 c),unfC (y9s7.eq_1 c),unfC (y9s20.eq_1 c),unfC (y9s21.eq_1 c),unfC (y9s22.eq_1 c),unfC (y9s23.eq_1 c),unfC (y9s24.eq_1 c),unfC (y9s25.eq_1 c),unfC (y9s26.eq_1 c),unfC (y9s27.eq_1 c),A_,simprocAttr,ne_eq,hI]
        refine h5.at n e a b _ _ _ hSe hes (by omega) hbN hN ?_
        rw [List.set_set]
        obtain ⟨q1,q2⟩:=Sort.partialInsertionSort_holds Sort.swo_ltInt e a b (by omega) hbe hB
        have q1':Sort.PermIn a b e (Sort.partialInsertionSort ltI e a b).1:=q1
        have q2':(Sort.partialInsertionSort ltI e a b).2=true→Sort.SortedIn ltI a b (Sort.partialInsertionSort ltI e a b).1:=q2
        clear q1 q2
        generalize Sort.partialInsertionSort ltI e a b=pr at q1' q2' ⊢
        obtain ⟨e3,ok⟩:=pr
        dsimp only at q1' q2' ⊢
        cases ok with
        | true =>
          obtain ⟨q3,q4⟩:=hfin _ q1' (q2' rfl)
          simp only [unfC (y9s1.eq_1 c),unfC (y9s2.eq_1 c),unfC (y9s3.eq_1 c),unfC (y9s4.eq_1 c),unfC (y9s5.eq_1 c),unfC (y9s6.eq_1 c),unfC (y9s7.eq_1 c),unfC (y9s20.eq_1 c),unfC (y9s21.eq_1 c),unfC (y9s22.eq_1 c),unfC (y9s23.eq_1 c),unfC (y9s24.eq_1 c),unfC (y9s25.eq_1 c),unfC (y9s26.eq_1 c),unfC (y9s27.eq_1 c),A_,simprocAttr,ne_eq]
          exact hK _ q3 q4
        | false =>
          obtain ⟨s3,b3,B3⟩:=fin2 e3 q1'
          simp only [unfC (y9s1.eq_1 c),unfC (y9s2.eq_1 c),unfC (y9s3.eq_1 c),unfC (y9s4.eq_1 c),unfC (y9s5.eq_1 c),unfC (y9s6.eq_1 c),unfC (y9s7.eq_1 c),unfC (y9s20.eq_1 c),unfC (y9s21.eq_1 c),unfC (y9s22.eq_1 c),unfC (y9s23.eq_1 c),unfC (y9s24.eq_1 c),unfC (y9s25.eq_1 c),unfC (y9s26.eq_1 c),unfC (y9s27.eq_1 c),A_,simprocAttr,ne_eq]
          exact y9s19_run hC P h6 h7 h8 h9 (Sset2 e3) (hlen e3) s3 u1 u2 hbN hN (by omega) hlim (by omega) B3 (loop2 e3 q1') _ _ _ _ _ _ _ _ _ _ _ _ _ _ _ _ _ _ _ _ _ _ _ _ _ _ _ _ _ _ _ _ _ _ _ _ _ _ _ _ _ _ _ _ _ _ _ _ _ _ _ _ _ _ _ _ _ _ _ _ _ _ _ _ _ _ _ _ _ _ _ _ _ _ _ _ _ _ _ _ _ _ _ _ _ _ _ _ _ _ _ _ _ _ _ _ _ _ _ _ _ _ _ _ _ _ _ _ _ _ _ _ _ _ _ _ _ _ _ _ _ _ _ _ _ _
    | decreasing =>
      have hwp:IntKind.i64.wrap ((piv:Int) - (a:Int))=((piv - a:Nat):Int):=by rw [wrap_i64 (by omega) (by omega)]; omega
      have hwp2:IntKind.i64.wrap (((b - 1:Nat):Int) - ((piv - a:Nat):Int))=((b - 1 - (piv - a):Nat):Int):=by rw [wrap_i64 (by omega) (by omega)]; omega
      simp only [unfC (y9s1.eq_1 c),unfC (y9s2.eq_1 c),unfC (y9s3.eq_1 c),unfC (y9s4.eq_1 c),unfC (y9s5.eq_1 c),unfC (y9s6.eq_1 c),unfC (y9s7.eq_1 c),unfC (y9s20.eq_1 c),unfC (y9s21.eq_1 c),unfC (y9s22.eq_1 c),unfC (y9s23.eq_1 c),unfC (y9s24.eq_1 c),unfC (y9s25.eq_1 c),unfC (y9s26.eq_1 c),unfC (y9s27.eq_1 c),A_,simprocAttr,ne_eq,hI]
      refine h4.at n e a b _ _ _ hSe hes (by omega) hbN hN ?_
      rw [List.set_set]
      have p2:=Sort.reverseRange_holds e a b hab hbe
      generalize Sort.reverseRange e a b=e2 at p2 ⊢
      obtain ⟨s2,b2,B2⟩:=fin2 e2 p2
      cases wp with
      | false =>
        simp only [unfC (y9s1.eq_1 c),unfC (y9s2.eq_1 c),unfC (y9s3.eq_1 c),unfC (y9s4.eq_1 c),unfC (y9s5.eq_1 c),unfC (y9s6.eq_1 c),unfC (y9s7.eq_1 c),unfC (y9s20.eq_1 c),unfC (y9s21.eq_1 c),unfC (y9s22.eq_1 c),unfC (y9s23.eq_1 c),unfC (y9s24.eq_1 c),unfC (y9s25.eq_1 c),unfC (y9s26.eq_1 c),unfC (y9s27.eq_1 c),A_,simprocAttr,ne_eq,hwb1,hwp,hwp2]
        exact y9s19_run hC P h6 h7 h8 h9 (Sset2 e2) (hlen e2) s2 (by omega) (by omega) hbN hN (by omega) hlim (by omega) B2 (loop2 e2 p2) _ _ _ _ _ _ _ _ _ _ _ _ _ _ _ _ _ _ _ _ _ _ _ _ _ _ _ _ _ _ _ _ _ _ _ _ _ _ _ _ _ _ _ _ _ _ _ _ _ _ _ _ _ _ _ _ _ _ _ _ _ _ _ _ _ _ _ _ _ _ _ _ _ _ _ _ _ _ _ _ _ _ _ _ _ _ _ _ _ _ _ _ _ _ _ _ _ _ _ _ _ _ _ _ _ _ _ _ _ _ _ _ _ _ _ _ _ _ _ _ _ _ _ _ _ _
      | true =>
        simp only [unfC (y9s1.eq_1 c),unfC (y9s2.eq_1 c),unfC (y9s3.eq_1 c),unfC (y9s4.eq_1 c),unfC (y9s5.eq_1 c),unfC (y9s6.eq_1 c),unfC (y9s7.eq_1 c),unfC (y9s20.eq_1 c),unfC (y9s21.eq_1 c),unfC (y9s22.eq_1 c),unfC (y9s23.eq_1 c),unfC (y9s24.eq_1 c),unfC (y9s25.eq_1 c),unfC (y9s26.eq_1 c),unfC (y9s27.eq_1 c),A_,simprocAttr,ne_eq,hwb1,hwp,hwp2]
        refine h5.at n e2 a b _ _ _ (Sset2 e2) s2 (by omega) hbN hN ?_
        rw [List.set_set]
        obtain ⟨q1,q2⟩:=Sort.partialInsertionSort_holds Sort.swo_ltInt e2 a b (by omega) b2 B2
        have q1':Sort.PermIn a b e2 (Sort.partialInsertionSort ltI e2 a b).1:=q1
        have q2':(Sort.partialInsertionSort ltI e2 a b).2=true→Sort.SortedIn ltI a b (Sort.partialInsertionSort ltI e2 a b).1:=q2
        clear q1 q2
        generalize Sort.partialInsertionSort ltI e2 a b=pr at q1' q2' ⊢
        obtain ⟨e3,ok⟩:=pr
        dsimp only at q1' q2' ⊢
        have q1':=Sort.permIn_trans _ _ _ _ _ p2 q1'
        cases ok with
        | true =>
          obtain ⟨q3,q4⟩:=hfin _ q1' (q2' rfl)
          simp only [unfC (y9s1.eq_1 c),unfC (y9s2.eq_1 c),unfC (y9s3.eq_1 c),unfC (y9s4.eq_1 c),unfC (y9s5.eq_1 c),unfC (y9s6.eq_1 c),unfC (y9s7.eq_1 c),unfC (y9s20.eq_1 c),unfC (y9s21.eq_1 c),unfC (y9s22.eq_1 c),unfC (y9s23.eq_1 c),unfC (y9s24.eq_1 c),unfC (y9s25.eq_1 c),unfC (y9s26.eq_1 c),unfC (y9s27.eq_1 c),A_,simprocAttr,ne_eq]
          exact hK _ q3 q4
        | false =>
          obtain ⟨s3,b3,B3⟩:=fin2 e3 q1'
          simp only [unfC (y9s1.eq_1 c),unfC (y9s2.eq_1 c),unfC (y9s3.eq_1 c),unfC (y9s4.eq_1 c),unfC (y9s5.eq_1 c),unfC (y9s6.eq_1 c),unfC (y9s7.eq_1 c),unfC (y9s20.eq_1 c),unfC (y9s21.eq_1 c),unfC (y9s22.eq_1 c),unfC (y9s23.eq_1 c),unfC (y9s24.eq_1 c),unfC (y9s25.eq_1 c),unfC (y9s26.eq_1 c),unfC (y9s27.eq_1 c),A_,simprocAttr,ne_eq]
          exact y9s19_run hC P h6 h7 h8 h9 (Sset2 e3) (hlen e3) s3 (by omega) (by omega) hbN hN (by omega) hlim (by omega) B3 (loop2 e3 q1') _ _ _ _ _ _ _ _ _ _ _ _ _ _ _ _ _ _ _ _ _ _ _ _ _ _ _ _ _ _ _ _ _ _ _ _ _ _ _ _ _ _ _ _ _ _ _ _ _ _ _ _ _ _ _ _ _ _ _ _ _ _ _ _ _ _ _ _ _ _ _ _ _ _ _ _ _ _ _ _ _ _ _ _ _ _ _ _ _ _ _ _ _ _ _ _ _ _ _ _ _ _ _ _ _ _ _ _ _ _ _ _ _ _ _ _ _ _ _ _ _ _ _ _ _ _
end Go.AM
namespace Go.AM
open Go
set_option maxRecDepth 20000
def y10a1 (c:Nat→FuncId):LCode:=(.sq [(zs 5 (.mv true (.t 0))),(zs 6 (.mv false (.t 2))),(zs 7 (.mv false (.t 2))),(zs 8 (.conv (.int .u64) (.t 7))),(zs 9 (.call (.f (c 0)) [(.t 8)])),(zs 10 (.call (.f (c 1)) [(.t 5),(zi 0),(.t 6),(.t 9)]))])
def U_slices_Sort_int (c:Nat→FuncId):=PLift.up (@unfC _ _ (y10a1.eq_1 c))
def C_slices_Sort_int (c:Nat→FuncId):LFn:=⟨11,[],(.seq (.sq [(zs 3 (.mv false (.t 0))),(zs 4 (.len .sl (.t 3))),(zs 2 (.mv true (.t 4)))]) (y10a1 c))⟩
end Go.AM
namespace Go.AM
open Go
open AV renaming undef → uu
set_option maxRecDepth 20000
def PdqN (C:CallW) (f:FuncId):Prop:=∀S H (K:AV→St→Prop),K (.tup []) ⟨S,H⟩→C (.fn f) [.s .nilS,.s (.int .i64 (0:Nat)),.s (.int .i64 (0:Nat)),.s (.int .i64 (0:Nat))] ⟨S,H⟩ K
def SrtN (C:CallW) (f:FuncId):Prop:=∀S H (K:AV→St→Prop),K (.tup []) ⟨S,H⟩→C (.fn f) [.s .nilS,.s (.int .i64 (0:Nat)),.s (.int .i64 (0:Nat))] ⟨S,H⟩ K
def OneN (C:CallW) (f:FuncId) (r:AV):Prop:=∀S H (K:AV→St→Prop),K r ⟨S,H⟩→C (.fn f) [.s .nilS] ⟨S,H⟩ K
set_option maxHeartbeats 4000000 in
theorem insertionSort_nil {C:CallW} (hC:LeC C C) (P:Program) {c:Nat→FuncId}:∀S H (K:AV→St→Prop),K (.tup []) ⟨S,H⟩→runL C P (C_slices_insertionSortOrdered_int64 c) [.s .nilS,.s (.int .i64 (0:Nat)),.s (.int .i64 (0:Nat))] ⟨S,H⟩ K:=by
  intro S H K hK
  have hw0:IntKind.i64.wrap (((0:Nat):Int) + 1)=1:=rfl
  simp only [C_slices_insertionSortOrdered_int64,A_,simprocAttr,ne_eq,(U_slices_insertionSortOrdered_int64 _).1,hw0]
  refine loop_rule hC (α:=Unit) (fun x=>0) (fun x=>[.s .nilS,.s (.int .i64 (0:Nat)),.s (.int .i64 (0:Nat)),uu,uu,uu,.s (.int .i64 1),uu,uu,uu,uu,uu,uu,uu,uu,uu,uu,uu,uu,uu,uu,uu,uu,uu,uu,uu,uu,uu,uu,uu,uu,uu,uu,uu,uu,uu,uu,uu,uu,uu,uu,uu,uu,uu,uu,uu,uu,uu,uu]) (fun x=>S) (fun _=>H) (fun x=>True) () trivial (by simp [keep,zm]) (by rw [List.take_of_length_le (Nat.le_refl _)]) rfl (fun x _=>by simp [AV.under,AV.under.go]) ?_
  rintro x hx ih
  have hlt:((1:Int) < ((0:Nat):Int))=False:=eq_false (by omega)
  have hlt2:((1:Int) < 0)=False:=eq_false (by omega)
  simp only [C_slices_insertionSortOrdered_int64,A_,simprocAttr,ne_eq,(U_slices_insertionSortOrdered_int64 _).1,hlt,hlt2]
  exact hK
set_option maxHeartbeats 4000000 in
theorem pdqsort_nil {C:CallW} (hC:LeC C C) (P:Program) {c:Nat→FuncId} (h0:SrtN C (c 0)):∀S H (K:AV→St→Prop),K (.tup []) ⟨S,H⟩→runL C P (C_slices_pdqsortOrdered_int64 c) [.s .nilS,.s (.int .i64 (0:Nat)),.s (.int .i64 (0:Nat)),.s (.int .i64 (0:Nat))] ⟨S,H⟩ K:=by
  intro S H K hK
  simp only [C_slices_pdqsortOrdered_int64,A_,simprocAttr,ne_eq,(U_slices_pdqsortOrdered_int64 _).1]
  refine loop_rule hC (α:=Unit) (fun x=>0) (fun x=>[.s .nilS,.s (.int .i64 (0:Nat)),.s (.int .i64 (0:Nat)),.s (.int .i64 (0:Nat)),uu,uu,uu,uu,.s (.bool true),.s (.bool true),uu,uu,uu,uu,uu,uu,uu,uu,uu,uu,uu,uu,uu,uu,uu,uu,uu,uu,uu,uu,uu,uu,uu,uu,uu,uu,uu,uu,uu,uu,uu,uu,uu,uu,uu,uu,uu,uu,uu,uu,uu,uu,uu,uu,uu,uu,uu,uu,uu,uu,uu,uu,uu,uu,uu,uu,uu,uu,uu,uu,uu,uu,uu,uu,uu,uu,uu,uu,uu,uu,uu,uu,uu,uu,uu,uu,uu,uu,uu,uu,uu,uu,uu,uu,uu,uu,uu,uu,uu,uu,uu,uu,uu,uu,uu,uu,uu,uu,uu,uu,uu,uu,uu,uu,uu,uu,uu,uu,uu,uu,uu,uu,uu,uu,uu,uu,uu,uu,uu,uu,uu,uu,uu,uu]) (fun x=>S) (fun _=>H) (fun x=>True) () trivial (by simp [keep,zm]) (by rw [List.take_of_length_le (Nat.le_refl _)]) rfl (fun x _=>by simp [AV.under,AV.under.go]) ?_
  rintro x hx ih
  have hw:IntKind.i64.wrap (((0:Nat):Int) - ((0:Nat):Int))=0:=rfl
  have hlt:((0:Int)≤12)=True:=eq_true (by omega)
  simp only [C_slices_pdqsortOrdered_int64,A_,simprocAttr,ne_eq,(U_slices_pdqsortOrdered_int64 _).1,hw,hlt]
  refine h0 _ _ _ ?_
  simp only [C_slices_pdqsortOrdered_int64,A_,simprocAttr,ne_eq,(U_slices_pdqsortOrdered_int64 _).1]
  exact hK
def SortIS (C:CallW) (f:FuncId):Prop:=∀(n:Nat) (d:Array Int) (S:List (List AV)) (H:List HObj) (K:AV→St→Prop),S[n]? = some (flat iA d)→d.size≤2305843009213693952→(∀R,Sort.PermIn 0 d.size d R→Sort.SortedIn ltI 0 d.size R→K (.tup []) ⟨S.set n (flat iA R),H⟩)→C (.fn f) [.row (.stk n) 0 d.size d.size] ⟨S,H⟩ K
theorem Sort_int_spec {C:CallW} (P:Program) {c:Nat→FuncId} (h0:LenS C (c 0)) (h1:∀m,PdqS C (c 1) m):∀(n:Nat) (d:Array Int) (S:List (List AV)) (H:List HObj) (K:AV→St→Prop),S[n]? = some (flat iA d)→d.size≤2305843009213693952→(∀R,Sort.PermIn 0 d.size d R→Sort.SortedIn ltI 0 d.size R→K (.tup []) ⟨S.set n (flat iA R),H⟩)→runL C P (C_slices_Sort_int c) [.row (.stk n) 0 d.size d.size] ⟨S,H⟩ K:=by
  intro n d S H K hS hd hK
  have hc:IntKind.u64.wrap (d.size:Int)=(d.size:Int):=wu64 (by omega)
  simp only [C_slices_Sort_int,A_,simprocAttr,ne_eq,(U_slices_Sort_int _).1,convL,hc]
  refine h0 d.size (by omega) _ _ _ ?_
  have hb:=bitsLen_le (x:=d.size) (k:=62) (by omega)
  simp only [A_,simprocAttr,ne_eq,(U_slices_Sort_int _).1]
  refine h1 (d.size + 1) n d 0 d.size (Sort.bitsLen d.size) _ _ _ hS (Nat.zero_le _) (Nat.le_refl _) hd (by omega) (by omega) (.inl rfl) fun R h2 h3 => ?_
  simp only [A_,simprocAttr,ne_eq,(U_slices_Sort_int _).1]
  exact hK R h2 h3
theorem Sort_int_nil {C:CallW} (P:Program) {c:Nat→FuncId} (h0:LenS C (c 0)) (h1:PdqN C (c 1)):∀S H (K:AV→St→Prop),K (.tup []) ⟨S,H⟩→runL C P (C_slices_Sort_int c) [.s .nilS] ⟨S,H⟩ K:=by
  intro S H K hK
  have hc:IntKind.u64.wrap (0:Int)=((0:Nat):Int):=rfl
  simp only [C_slices_Sort_int,A_,simprocAttr,ne_eq,(U_slices_Sort_int _).1,convL,hc]
  refine h0 0 (by omega) _ _ _ ?_
  simp only [A_,simprocAttr,ne_eq,(U_slices_Sort_int _).1]
  refine h1 _ _ _ ?_
  simp only [A_,simprocAttr,ne_eq,(U_slices_Sort_int _).1]
  exact hK
theorem flat_iA (d:Array Int):flat iA d=d.toList.map iA:=by
  unfold flat
  generalize d.toList=l
  induction l with
  | nil=>rfl
  | cons x l ih=>rw [List.flatMap_cons,ih]; rfl
theorem freeze_i {e:ET} {S:List (List AV)} {H:List HObj} {n k N:Nat} {d:Array Int} (h1:e.c=1) (h2:e.ag=false) (hS:S[n]? = some (flat iA d)) (hk:k≤d.size):freezeL e (.row (.stk n) 0 k N) ⟨S,H⟩=some (.list .sh 1 ((d.toList.take k).map iA),⟨S.set n [],H⟩):=by
  have hl:0 + k≤(flat iA d).length:=by rw [flat_length iA_EK]; omega
  have hlook:∀l:List Int,(l.map iA).map AV.look=l.map iA:=by
    intro l; induction l with
    | nil=>rfl
    | cons x l ih=>rw [List.map_cons,List.map_cons,ih]; rfl
  have hcell:∀l:List Int,(l.map iA).all AV.isCell=true:=by
    intro l; induction l with
    | nil=>rfl
    | cons x l ih=>rw [List.map_cons,List.all_cons,ih]; rfl
  have hu:∀l:List Int,underL 0 (l.map iA)=true:=by
    intro l; induction l with
    | nil=>rfl
    | cons x l ih=>exact ih
  have hgr:∀l:List Int,groupL e l.length (l.map iA)=l.map iA:=by
    intro l; induction l with
    | nil=>rfl
    | cons x l ih=>rw [List.length_cons,groupL,h1]; simp only [List.map_cons,List.take_succ_cons,List.take_zero,List.drop_succ_cons,List.drop_zero,ih]; simp [packL,h2,iA]
  have hlen:(d.toList.take k).length=k:=by simp; omega
  have hg2:=hgr (d.toList.take k)
  rw [hlen] at hg2
  unfold freezeL
  simp only [h1,Nat.mul_one,readCells,boxOf_stk,hS,Option.bind_some]
  rw [if_pos ⟨hl,.inr (by rw [List.drop_zero,flat_iA,←List.map_take,hlook]; exact hcell _)⟩]
  simp only [Option.bind_some,List.drop_zero,flat_iA,←List.map_take,hlook,hu,hg2]
  simp
end Go.AM
namespace Go.AM
open Go
set_option maxRecDepth 20000
def y11a1:LCode:=(.seq (.sq [(zs 1 (.mkmap none)),(zs 2 (.mkmap none)),(zs 3 (.build [(.s .nilM),(.s .nilM)] [(0,1,(.t 1)),(1,1,(.t 2))])),(zs 4 (.box false true (.t 3))),(zs 0 (.mv true (.t 4)))]) .ret)
def U_prep_New:=PLift.up (@unfC _ _ (y11a1.eq_1))
def C_prep_New:LFn:=⟨5,[.t 0],(.seq (.sq [(zs 0 (.mv true (.c .nilP)))]) y11a1)⟩
def y11b1:LCode:=(.seq (.tree (.rd (zs 7 (.load1 false (.t 1))) 0 false (.rd (zs 8 (.nilc (.t 7))) 1 false (.rd (zs 9 (.shift 1 (.t 8))) 2 false (.rd (zs 10 (.load1 false (.t 9))) 3 false (.rd (zs 11 (.shift 0 (.t 2))) 4 false (.rd (zs 12 (.loadA 16 (.t 11))) 5 false (.rd (zs 13 (.look (.leaf lk) (.s (.int .i64 0)) true (.t 10) (.t 12))) 6 false (.rd (zs 6 (.mv false (.t 13))) 7 false (.rd (zs 14 (.ext (.t 6) 0)) 8 false (.rd (zs 15 (.ext (.t 6) 1)) 9 true (.mv (zs 4 (.mv true (.t 14))) [0,1,2,3,4,5,6,7,8] (.mv (zs 5 (.mv true (.t 15))) [0,1,2,3,4,5,6,7,8,9,10] .done .stop) .stop)))))))))))) (.seq (.sq [(zs 16 (.mv false (.t 5))),(zs 3 (.mv true (.t 16)))]) .ret))
def U_prep_Table_Held_1:=PLift.up (@unfC _ _ (y11b1.eq_1))
def C_prep_Table_Held_1:LFn:=⟨17,[.t 3],(.seq (.sq [(zs 2 (.box false false (.t 0))),(zs 3 (.mv true zF))]) y11b1)⟩
def y11c1 (c:Nat→FuncId):LCode:=(.seq (.sq [(zs 5 (.mv true (.t 1))),(zs 6 (.mkfn (c 0) [] [(.t 2)])),(zs 7 (.call (.f (c 1)) [(.t 5),(.t 6)])),(zs 4 (.mv true (.t 7)))]) .ret)
def U_prep_Table_Held (c:Nat→FuncId):=PLift.up (@unfC _ _ (y11c1.eq_1 c))
def C_prep_Table_Held (c:Nat→FuncId):LFn:=⟨8,[.t 4],(.seq (.sq [(zs 2 (.box false false (.t 0))),(zs 4 (.mv true zF))]) (y11c1 c))⟩
def y11d1:LCode:=(.seq (.sq [(zs 3 (.mv false (.t 0))),(zs 4 (.nilc (.t 3))),(zs 5 (.shift 0 (.t 4))),(zs 6 (.load1 false (.t 5))),(zs 7 (.len .map (.t 6))),(zs 8 (.bin .geq .sc (.t 7) (zi 100))),(zs 2 (.mv true (.t 8)))]) .ret)
def U_prep_Table_Full:=PLift.up (@unfC _ _ (y11d1.eq_1))
def C_prep_Table_Full:LFn:=⟨9,[.t 2],(.seq (.sq [(zs 2 (.mv true zF))]) y11d1)⟩
def y11e1:LCode:=(.seq (.sq [(zs 5 (.bsl ⟨18,true,40,(.agg (zk ++ [(.s (.str [])),(.s (.bool false))]))⟩ 0 [])),(zs 6 (.mv false (.t 0))),(zs 7 (.app ⟨18,true,40,(.agg (zk ++ [(.s (.str [])),(.s (.bool false))]))⟩ false (.t 5) (.t 6))),(zs 2 (.mv true (.t 7)))]) .ret)
def y11e2:LCode:=(.seq (.seq (.sq [(zs 3 (.mv false (.t 0))),(zs 4 (.bin .eql (.ref 1) (.t 3) (.c .nilS)))]) (.cond (.t 4) (.seq (.sq [(zs 2 (.mv true (.c .nilS)))]) .ret) .skip)) y11e1)
def U_slices_Clone_Write:=PLift.up (zc (@unfC _ _ (y11e1.eq_1)) (@unfC _ _ (y11e2.eq_1)))
def C_slices_Clone_Write:LFn:=⟨8,[.t 2],(.seq (.sq [(zs 2 (.mv true (.c .nilS)))]) y11e2)⟩
def y11f1 (c:Nat→FuncId):LCode:=(.seq (.sq [(zs 3 (.shift 5 (.t 1))),(zs 4 (.load1 false (.t 3))),(zs 5 (.call (.f (c 0)) [(.t 4)])),(zs 6 (.shift 5 (.t 1))),(zn (.store 1 (.t 6) (.t 5)))]) (.seq (.sq [(zs 7 (.loadA 6 (.t 1))),(zn (.store 6 (.t 2) (.t 7)))]) .ret))
def U_prep_copied (c:Nat→FuncId):=PLift.up (@unfC _ _ (y11f1.eq_1 c))
def C_prep_copied (c:Nat→FuncId):LFn:=⟨8,[.many 2 6],(.seq (.sq [(zs 1 (.box false false (.t 0))),(zs 2 (.alloc false [(.s (.int .i64 0)),(.s (.int .i64 0)),(.s (.int .u8 0)),(.s (.int .i64 0)),(.s (.int .u8 0)),(.s .nilS)]))]) (y11f1 c))⟩
def y11g1 (c:Nat→FuncId):LCode:=(.seq (.sq [(zs 22 (.mv false (.t 6)))]) (.cond (.t 22) (.seq (.sq [(zs 4 (.mv true (zi 5)))]) .ret) .skip))
def y11g2 (c:Nat→FuncId):LCode:=(.seq (.sq [(zs 29 (.mv false (.t 0))),(zs 30 (.call (.f (c 2)) [(.t 29)])),(zs 28 (.mv true (.t 30)))]) (.cond (.t 28) (.seq (.sq [(zs 4 (.mv true (zi 6)))]) .ret) .skip))
def y11g3 (c:Nat→FuncId):LCode:=(.tree (.rd (zs 46 (.mv false (.t 0))) 0 false (.rd (zs 47 (.nilc (.t 46))) 1 false (.rd (zs 48 (.shift 1 (.t 47))) 2 false (.rd (zs 49 (.load1 false (.t 48))) 3 false (.rd (zs 50 (.shift 0 (.t 8))) 4 false (.rd (zs 51 (.loadA 16 (.t 50))) 5 false (.rd (zs 52 (.shift 0 (.t 3))) 6 false (.rd (zs 53 (.load1 false (.t 52))) 7 false (.mv (zn (.upd (.leaf lk) (.t 49) (.t 51) (.t 53))) [0,1,2,3,4,5,6,7] .done .stop))))))))))
def y11g4 (c:Nat→FuncId):LCode:=(.seq (.block 2 (.seq (.sq [(zs 44 (.ixa (.sl 18) (.t 40) (.t 42))),(zs 45 (.loadA 18 (.t 44))),(zs 8 (.alloc false (zk ++ [(.s (.str [])),(.s (.bool false))]))),(zn (.store 18 (.t 8) (.t 45)))]) (y11g3 c))) (.sq [(zs 54 (.bin .add .sc (.t 42) (zi 1))),(zs 42 (.mv false (.t 54)))]))
def y11g5 (c:Nat→FuncId):LCode:=(.seq (.sq [(zs 43 (.bin .lss .sc (.t 42) (.t 41)))]) (.seq (.cond (.t 43) .skip (.exit 1)) (y11g4 c)))
def y11g6 (c:Nat→FuncId):LCode:=(.block 1 (.loop (zm false [0,1,2,1,36,3,12]) (y11g5 c)))
def y11g7 (c:Nat→FuncId):LCode:=(.seq (.seq (.sq [(zs 39 (.shift 5 (.t 3))),(zs 40 (.load1 false (.t 39))),(zs 41 (.len .sl (.t 40))),(zs 42 (.mv false (zi 0)))]) (y11g6 c)) (.seq (.sq [(zs 4 (.mv true (zi 0)))]) .ret))
def y11g8 (c:Nat→FuncId):LCode:=(.seq (.tree (.rd (zs 31 (.mv false (.t 0))) 0 true (.rd (zs 32 (.nilc (.t 31))) 1 true (.rd (zs 33 (.shift 0 (.t 32))) 2 true (.rd (zs 34 (.load1 false (.t 33))) 3 true (.rd (zs 35 (.shift 0 (.t 3))) 4 true (.rd (zs 36 (.load1 false (.t 35))) 5 true (.rd (zs 37 (.loadA 6 (.t 3))) 6 false (.mv (zs 38 (.call (.f (c 3)) [(.t 37)])) [6] (.mv (zn (.upd (.one (.int .i64)) (.t 34) (.t 36) (.t 38))) [0,1,2,3,4,5,6,7] .done .stop) .stop))))))))) (y11g7 c))
def y11g9 (c:Nat→FuncId):LCode:=(.seq (.block 0 (.seq (.sq [(zs 24 (.mv false (.t 0))),(zs 25 (.shift 5 (.t 3))),(zs 26 (.load1 false (.t 25))),(zs 27 (.call (.f (c 1)) [(.t 24),(.t 26)])),(zs 23 (.mv true (.t 27)))]) (.cond (.t 23) (.seq (.sq [(zs 4 (.mv true (zi 9)))]) .ret) (y11g2 c)))) (y11g8 c))
def y11g10 (c:Nat→FuncId):LCode:=(.seq (.seq (.tree (.rd (zs 13 (.mv false (.t 0))) 0 true (.rd (zs 14 (.nilc (.t 13))) 1 true (.rd (zs 15 (.shift 0 (.t 14))) 2 true (.rd (zs 16 (.load1 false (.t 15))) 3 true (.rd (zs 17 (.shift 0 (.t 3))) 4 true (.rd (zs 18 (.load1 false (.t 17))) 5 true (.rd (zs 19 (.look (.one (.int .i64)) (.agg [(.s (.int .i64 0)),(.s (.int .i64 0)),(.s (.int .u8 0)),(.s (.int .i64 0)),(.s (.int .u8 0)),(.s .nilS)]) true (.t 16) (.t 18))) 6 true (.rd (zs 12 (.mv false (.t 19))) 7 true (.rd (zs 20 (.ext (.t 12) 0)) 8 true (.rd (zs 21 (.ext (.t 12) 1)) 9 true (.mv (zs 5 (.alloc false [(.s (.int .i64 0)),(.s (.int .i64 0)),(.s (.int .u8 0)),(.s (.int .i64 0)),(.s (.int .u8 0)),(.s .nilS)])) [] (.mv (zn (.store 6 (.t 5) (.t 20))) [0,1,2,3,4,5,6,7,8,10] (.mv (zs 6 (.mv true (.t 21))) [0,1,2,3,4,5,6,7,8,9,10,11] .done .stop) .stop) .stop)))))))))))) (y11g1 c)) (y11g9 c))
def y11g11 (c:Nat→FuncId):LCode:=(.seq (.seq (.sq [(zs 9 (.loadA 6 (.t 3))),(zs 10 (.call (.f (c 0)) [(.t 9)])),(zs 11 (.un .not (.t 10)))]) (.cond (.t 11) (.seq (.sq [(zs 4 (.mv true (zi 1)))]) .ret) .skip)) (y11g10 c))
def U_prep_Table_Add (c:Nat→FuncId):=PLift.up (zc (zc (zc (@unfC _ _ (y11g1.eq_1 c)) (@unfC _ _ (y11g2.eq_1 c))) (zc (@unfC _ _ (y11g3.eq_1 c)) (zc (@unfC _ _ (y11g4.eq_1 c)) (@unfC _ _ (y11g5.eq_1 c))))) (zc (zc (@unfC _ _ (y11g6.eq_1 c)) (zc (@unfC _ _ (y11g7.eq_1 c)) (@unfC _ _ (y11g8.eq_1 c)))) (zc (@unfC _ _ (y11g9.eq_1 c)) (zc (@unfC _ _ (y11g10.eq_1 c)) (@unfC _ _ (y11g11.eq_1 c))))))
def C_prep_Table_Add (c:Nat→FuncId):LFn:=⟨55,[.t 4],(.seq (.sq [(zs 3 (.box false false (.t 1))),(zs 4 (.mv true (zi 0)))]) (y11g11 c))⟩
def y11h1:LCode:=(.seq (.sq [(zs 10 (.mv false (.t 0))),(zs 11 (.mv false (.t 3))),(zs 12 (.call (.t 10) [(.t 11)])),(zs 13 (.un .not (.t 12)))]) (.cond (.t 13) .ret .skip))
def y11h2:LCode:=(.block 1 (.seq (.sq [(zs 8 (.ent (.t 5))),(zs 9 (.ext (.t 8) 0)),(zs 3 (.mv true (.t 9)))]) y11h1))
def y11h3:LCode:=(.seq (.sq [(zs 6 (.nxt (.t 5))),(zs 7 (.ext (.t 6) 0))]) (.seq (.cond (.t 7) .skip (.exit 0)) y11h2))
def y11h4:LCode:=(.block 0 (.loop (zm false [0,1,4,1,8]) y11h3))
def U_maps_Keys_Entry_1:=PLift.up (zc (zc (@unfC _ _ (y11h1.eq_1)) (@unfC _ _ (y11h2.eq_1))) (zc (@unfC _ _ (y11h3.eq_1)) (@unfC _ _ (y11h4.eq_1))))
def C_maps_Keys_Entry_1:LFn:=⟨14,[],(.seq (.sq [(zs 4 (.load1 false (.t 1))),(zs 5 (.rng (.t 4)))]) y11h4)⟩
def C_maps_Keys_Entry (c:Nat→FuncId):LFn:=⟨4,[.t 2],(.seq (.sq [(zs 1 (.box false true (.t 0))),(zs 2 (.mv true (.c .nilF)))]) (.seq (.sq [(zs 3 (.mkfn (c 0) [] [(.t 1)])),(zs 2 (.mv true (.t 3)))]) .ret))⟩
def C_slices_AppendSeq_int64_a0:LFn:=⟨0,[],(.sq [(zs 5 (.mv true (.t 7)))])⟩
def C_slices_AppendSeq_int64_b0:LFn:=⟨0,[],(.block 1 (.sq [(zs 8 (.load1 true (.t 2))),(zs 9 (.mv false (.t 5))),(zs 10 (.bsl ⟨1,false,8,(.s (.int .i64 0))⟩ 1 [(0,(.t 9))])),(zs 11 (.app ⟨1,false,8,(.s (.int .i64 0))⟩ false (.t 8) (.t 10))),(zn (.stu (.t 2) (.t 11)))]))⟩
def y11i1 (c:Nat→FuncId) (as1 bd1:Code):LCode:=(.seq (.seq (.sq [(zs 6 (.mv false (.t 1)))]) (.block 0 (.rfun (.t 6) (c 0) #[7] as1 bd1))) (.seq (.sq [(zs 12 (.load1 true (.t 2))),(zs 4 (.mv true (.t 12)))]) .ret))
def U_slices_AppendSeq_int64 (c:Nat→FuncId) (as1 bd1:Code):=PLift.up (@unfC _ _ (y11i1.eq_1 c as1 bd1))
def C_slices_AppendSeq_int64 (c:Nat→FuncId) (as1 bd1:Code):LFn:=⟨13,[.t 4],(.seq (.sq [(zs 2 (.box true true (.t 0))),(zs 4 (.mv true (.c .nilS)))]) (y11i1 c as1 bd1))⟩
def y11j1 (c:Nat→FuncId):LCode:=(.seq (.sq [(zs 3 (.mv false (.t 0))),(zs 4 (.call (.f (c 0)) [(.c .nilS),(.t 3)])),(zs 2 (.mv true (.t 4)))]) .ret)
def U_slices_Collect_int64 (c:Nat→FuncId):=PLift.up (@unfC _ _ (y11j1.eq_1 c))
def C_slices_Collect_int64 (c:Nat→FuncId):LFn:=⟨5,[.t 2],(.seq (.sq [(zs 2 (.mv true (.c .nilS)))]) (y11j1 c))⟩
def y11k1 (c:Nat→FuncId):LCode:=(.seq (.sq [(zs 6 (.thaw 3)),(zs 7 (.call (.f (c 1)) [(.t 6)]))]) (.seq (.sq [(zs 8 (.frz ⟨1,false,8,(.s (.int .i64 0))⟩ (.t 3))),(zs 2 (.mv true (.t 8)))]) .ret))
def y11k2 (c:Nat→FuncId):LCode:=(.seq (.sq [(zs 4 (.mv false (.t 0))),(zs 5 (.call (.f (c 0)) [(.t 4)])),(zs 3 (.mv true (.t 5)))]) (y11k1 c))
def U_slices_Sorted_int64 (c:Nat→FuncId):=PLift.up (zc (@unfC _ _ (y11k1.eq_1 c)) (@unfC _ _ (y11k2.eq_1 c)))
def C_slices_Sorted_int64 (c:Nat→FuncId):LFn:=⟨9,[.t 2],(.seq (.sq [(zs 2 (.mv true (.c .nilS)))]) (y11k2 c))⟩
def y11l1 (c:Nat→FuncId):LCode:=(.sq [(zs 17 (.mv true (.t 3))),(zs 18 (.mv false (.t 0))),(zs 19 (.nilc (.t 18))),(zs 20 (.shift 0 (.t 19))),(zs 21 (.load1 false (.t 20))),(zs 22 (.mv false (.t 5))),(zs 23 (.look (.one (.int .i64)) (.agg [(.s (.int .i64 0)),(.s (.int .i64 0)),(.s (.int .u8 0)),(.s (.int .i64 0)),(.s (.int .u8 0)),(.s .nilS)]) false (.t 21) (.t 22))),(zs 24 (.call (.f (c 2)) [(.t 23)])),(zs 25 (.bsl ⟨6,true,64,(.agg [(.s (.int .i64 0)),(.s (.int .i64 0)),(.s (.int .u8 0)),(.s (.int .i64 0)),(.s (.int .u8 0)),(.s .nilS)])⟩ 1 [(0,(.t 24))])),(zs 26 (.app ⟨6,true,64,(.agg [(.s (.int .i64 0)),(.s (.int .i64 0)),(.s (.int .u8 0)),(.s (.int .i64 0)),(.s (.int .u8 0)),(.s .nilS)])⟩ false (.t 17) (.t 25))),(zs 3 (.mv true (.t 26)))])
def y11l2 (c:Nat→FuncId):LCode:=(.seq (.block 1 (.seq (.sq [(zs 15 (.ixa (.sl 1) (.t 11) (.t 13))),(zs 16 (.load1 false (.t 15))),(zs 5 (.mv true (.t 16)))]) (y11l1 c))) (.sq [(zs 27 (.bin .add .sc (.t 13) (zi 1))),(zs 13 (.mv false (.t 27)))]))
def y11l3 (c:Nat→FuncId):LCode:=(.seq (.sq [(zs 14 (.bin .lss .sc (.t 13) (.t 12)))]) (.seq (.cond (.t 14) .skip (.exit 0)) (y11l2 c)))
def y11l4 (c:Nat→FuncId):LCode:=(.block 0 (.loop (zm false [0,1,2,1,7,3,15]) (y11l3 c)))
def y11l5 (c:Nat→FuncId):LCode:=(.seq (.seq (.sq [(zs 6 (.mv false (.t 0))),(zs 7 (.nilc (.t 6))),(zs 8 (.shift 0 (.t 7))),(zs 9 (.load1 false (.t 8))),(zs 10 (.call (.f (c 0)) [(.t 9)])),(zs 11 (.call (.f (c 1)) [(.t 10)])),(zs 12 (.len .sl (.t 11))),(zs 13 (.mv false (zi 0)))]) (y11l4 c)) (.seq (.sq [(zs 28 (.mv true (.t 3))),(zs 2 (.mv true (.t 28)))]) .ret))
def U_prep_Table_All (c:Nat→FuncId):=PLift.up (zc (zc (@unfC _ _ (y11l1.eq_1 c)) (@unfC _ _ (y11l2.eq_1 c))) (zc (@unfC _ _ (y11l3.eq_1 c)) (zc (@unfC _ _ (y11l4.eq_1 c)) (@unfC _ _ (y11l5.eq_1 c)))))
def C_prep_Table_All (c:Nat→FuncId):LFn:=⟨29,[.t 2],(.seq (.sq [(zs 2 (.mv true (.c .nilS)))]) (.seq (.sq [(zs 3 (.mv true (.c .nilS)))]) (y11l5 c)))⟩
def y11m1:LCode:=(.seq (.sq [(zs 17 (.mv false (.t 6))),(zs 18 (.mv false (.t 7))),(zs 4 (.mv true (.t 17))),(zs 5 (.mv true (.t 18)))]) .ret)
def y11m2:LCode:=(.seq (.tree (.rd (zs 9 (.mv false (.t 0))) 0 false (.rd (zs 10 (.nilc (.t 9))) 1 false (.rd (zs 11 (.shift 1 (.t 10))) 2 false (.rd (zs 12 (.load1 false (.t 11))) 3 false (.rd (zs 13 (.loadA 16 (.t 3))) 4 false (.rd (zs 14 (.look (.leaf lk) (.s (.int .i64 0)) true (.t 12) (.t 13))) 5 false (.rd (zs 8 (.mv false (.t 14))) 6 false (.rd (zs 15 (.ext (.t 8) 0)) 7 false (.rd (zs 16 (.ext (.t 8) 1)) 8 true (.mv (zs 6 (.mv true (.t 15))) [0,1,2,3,4,5,6,7] (.mv (zs 7 (.mv true (.t 16))) [0,1,2,3,4,5,6,7,8,9] .done .stop) .stop))))))))))) y11m1)
def U_prep_Table_Holder:=PLift.up (zc (@unfC _ _ (y11m1.eq_1)) (@unfC _ _ (y11m2.eq_1)))
def C_prep_Table_Holder:LFn:=⟨19,[.t 4,.t 5],(.seq (.sq [(zs 3 (.box false false (.t 1))),(zs 4 (.mv true (zi 0))),(zs 5 (.mv true zF))]) y11m2)⟩
def y11n1:LCode:=(.tree (.rd (zs 26 (.mv false (.t 0))) 0 false (.rd (zs 27 (.nilc (.t 26))) 1 false (.rd (zs 28 (.shift 1 (.t 27))) 2 false (.rd (zs 29 (.load1 false (.t 28))) 3 false (.rd (zs 30 (.shift 0 (.t 9))) 4 false (.rd (zs 31 (.loadA 16 (.t 30))) 5 false (.mv (zn (.del (.leaf lk) (.t 29) (.t 31))) [0,1,2,3,4,5] .done .stop))))))))
def y11n2:LCode:=(.seq (.block 1 (.seq (.sq [(zs 24 (.ixa (.sl 18) (.t 20) (.t 22))),(zs 25 (.loadA 18 (.t 24))),(zs 9 (.alloc false (zk ++ [(.s (.str [])),(.s (.bool false))]))),(zn (.store 18 (.t 9) (.t 25)))]) y11n1)) (.sq [(zs 32 (.bin .add .sc (.t 22) (zi 1))),(zs 22 (.mv false (.t 32)))]))
def y11n3:LCode:=(.block 0 (.loop (zm false [0,2,2,1,1,2,12,3,17]) (.seq (.sq [(zs 23 (.bin .lss .sc (.t 22) (.t 21)))]) (.seq (.cond (.t 23) .skip (.exit 0)) y11n2))))
def y11n4:LCode:=(.seq (.sq [(zs 38 (.loadA 6 (.t 6))),(zs 39 (.mv false (.t 7))),(zn (.store 6 (.t 4) (.t 38))),(zs 5 (.mv true (.t 39)))]) .ret)
def y11n5:LCode:=(.seq (.sq [(zs 33 (.mv false (.t 0))),(zs 34 (.nilc (.t 33))),(zs 35 (.shift 0 (.t 34))),(zs 36 (.load1 false (.t 35))),(zs 37 (.mv false (.t 1))),(zn (.del (.one (.int .i64)) (.t 36) (.t 37)))]) y11n4)
def y11n6:LCode:=(.seq (.seq (.sq [(zs 19 (.shift 5 (.t 6))),(zs 20 (.load1 false (.t 19))),(zs 21 (.len .sl (.t 20))),(zs 22 (.mv false (zi 0)))]) y11n3) y11n5)
def y11n7:LCode:=(.seq (.sq [(zs 11 (.mv false (.t 0))),(zs 12 (.nilc (.t 11))),(zs 13 (.shift 0 (.t 12))),(zs 14 (.load1 false (.t 13))),(zs 15 (.mv false (.t 1))),(zs 16 (.look (.one (.int .i64)) (.agg [(.s (.int .i64 0)),(.s (.int .i64 0)),(.s (.int .u8 0)),(.s (.int .i64 0)),(.s (.int .u8 0)),(.s .nilS)]) true (.t 14) (.t 15))),(zs 10 (.mv false (.t 16))),(zs 17 (.ext (.t 10) 0)),(zs 18 (.ext (.t 10) 1)),(zs 6 (.alloc false [(.s (.int .i64 0)),(.s (.int .i64 0)),(.s (.int .u8 0)),(.s (.int .i64 0)),(.s (.int .u8 0)),(.s .nilS)])),(zn (.store 6 (.t 6) (.t 17))),(zs 7 (.mv true (.t 18)))]) y11n6)
def U_prep_Table_Drop:=PLift.up (zc (zc (@unfC _ _ (y11n1.eq_1)) (zc (@unfC _ _ (y11n2.eq_1)) (@unfC _ _ (y11n3.eq_1)))) (zc (zc (@unfC _ _ (y11n4.eq_1)) (@unfC _ _ (y11n5.eq_1))) (zc (@unfC _ _ (y11n6.eq_1)) (@unfC _ _ (y11n7.eq_1)))))
def C_prep_Table_Drop:LFn:=⟨40,[.many 4 6,.t 5],(.seq (.sq [(zs 4 (.alloc false [(.s (.int .i64 0)),(.s (.int .i64 0)),(.s (.int .u8 0)),(.s (.int .i64 0)),(.s (.int .u8 0)),(.s .nilS)])),(zs 5 (.mv true zF))]) y11n7)⟩
def y11o1 (c:Nat→FuncId):LCode:=(.seq (.sq [(zs 17 (.loadA 6 (.t 6))),(zs 18 (.call (.f (c 0)) [(.t 17)])),(zs 19 (.mv false (.t 7))),(zn (.store 6 (.t 4) (.t 18))),(zs 5 (.mv true (.t 19)))]) .ret)
def y11o2 (c:Nat→FuncId):LCode:=(.seq (.sq [(zs 9 (.mv false (.t 0))),(zs 10 (.nilc (.t 9))),(zs 11 (.shift 0 (.t 10))),(zs 12 (.load1 false (.t 11))),(zs 13 (.mv false (.t 1))),(zs 14 (.look (.one (.int .i64)) (.agg [(.s (.int .i64 0)),(.s (.int .i64 0)),(.s (.int .u8 0)),(.s (.int .i64 0)),(.s (.int .u8 0)),(.s .nilS)]) true (.t 12) (.t 13))),(zs 8 (.mv false (.t 14))),(zs 15 (.ext (.t 8) 0)),(zs 16 (.ext (.t 8) 1)),(zs 6 (.alloc false [(.s (.int .i64 0)),(.s (.int .i64 0)),(.s (.int .u8 0)),(.s (.int .i64 0)),(.s (.int .u8 0)),(.s .nilS)])),(zn (.store 6 (.t 6) (.t 15))),(zs 7 (.mv true (.t 16)))]) (y11o1 c))
def U_prep_Table_Has (c:Nat→FuncId):=PLift.up (zc (@unfC _ _ (y11o1.eq_1 c)) (@unfC _ _ (y11o2.eq_1 c)))
def C_prep_Table_Has (c:Nat→FuncId):LFn:=⟨20,[.many 4 6,.t 5],(.seq (.sq [(zs 4 (.alloc false [(.s (.int .i64 0)),(.s (.int .i64 0)),(.s (.int .u8 0)),(.s (.int .i64 0)),(.s (.int .u8 0)),(.s .nilS)])),(zs 5 (.mv true zF))]) (y11o2 c))⟩
def y11p1 (c:Nat→FuncId):LCode:=(.cond (.t 32) (.seq (.sq [(zs 6 (.mv true (zi 0))),(zs 7 (.mv true zF))]) .ret) .skip)
def y11p2 (c:Nat→FuncId):LCode:=(.seq (.sq [(zs 33 (.mv false (.t 8))),(zs 6 (.mv true (.t 33))),(zs 7 (.mv true zT))]) .ret)
def y11p3 (c:Nat→FuncId):LCode:=(.seq (.seq (.tree (.rd (zs 19 (.mv false (.t 9))) 0 false (.rd (zs 20 (.un .not (.t 19))) 1 false (.rd (zs 21 (.mv false (.t 20))) 2 false (.rd (zf 22 21 (.mv false (.t 0))) 3 false (.rd (zf 23 21 (.nilc (.t 22))) 4 false (.rd (zf 24 21 (.shift 0 (.t 23))) 5 false (.rd (zf 25 21 (.load1 false (.t 24))) 6 false (.rd (zf 26 21 (.mv false (.t 8))) 7 false (.rd (zf 27 21 (.look (.one (.int .i64)) (.agg [(.s (.int .i64 0)),(.s (.int .i64 0)),(.s (.int .u8 0)),(.s (.int .i64 0)),(.s (.int .u8 0)),(.s .nilS)]) false (.t 25) (.t 26))) 8 false (.rd (zf 28 21 (.part (some 2) 3 (.t 27))) 9 false (.rd (zf 29 21 (.loadA 2 (.t 5))) 10 false (.mv (zf 30 21 (.call (.f (c 0)) [(.t 28),(.t 29)])) [0,1,2,3,4,5,6,7,8,9,10] (.rd (zf 31 21 (.bin .gtr .sc (.t 30) (zi 0))) 12 false (.rd (zs 32 (.pick (.t 21) zT (.t 31))) 13 false .done)) .stop))))))))))))) (y11p1 c)) (y11p2 c))
def y11p4 (c:Nat→FuncId):LCode:=(.seq (.tree (.rd (zs 11 (.mv false (.t 0))) 0 false (.rd (zs 12 (.nilc (.t 11))) 1 false (.rd (zs 13 (.shift 1 (.t 12))) 2 false (.rd (zs 14 (.load1 false (.t 13))) 3 false (.rd (zs 15 (.loadA 16 (.t 4))) 4 false (.rd (zs 16 (.look (.leaf lk) (.s (.int .i64 0)) true (.t 14) (.t 15))) 5 false (.rd (zs 10 (.mv false (.t 16))) 6 false (.rd (zs 17 (.ext (.t 10) 0)) 7 false (.rd (zs 18 (.ext (.t 10) 1)) 8 true (.mv (zs 8 (.mv true (.t 17))) [0,1,2,3,4,5,6,7] (.mv (zs 9 (.mv true (.t 18))) [0,1,2,3,4,5,6,7,8,9] .done .stop) .stop))))))))))) (y11p3 c))
def U_prep_Table_Blocks (c:Nat→FuncId):=PLift.up (zc (zc (@unfC _ _ (y11p1.eq_1 c)) (@unfC _ _ (y11p2.eq_1 c))) (zc (@unfC _ _ (y11p3.eq_1 c)) (@unfC _ _ (y11p4.eq_1 c))))
def C_prep_Table_Blocks (c:Nat→FuncId):LFn:=⟨34,[.t 6,.t 7],(.seq (.sq [(zs 4 (.box false false (.t 1))),(zs 5 (.box false false (.t 2))),(zs 6 (.mv true (zi 0))),(zs 7 (.mv true zF))]) (y11p4 c))⟩
def y11q1:LCode:=(.seq (.sq [(zs 3 (.mv false (.t 0))),(zs 4 (.build [(.s (.int .i64 0)),(.s (.int .u8 0))] [(0,1,(.t 3))])),(zn (.store 2 (.t 2) (.t 4)))]) .ret)
def U_hourglasslaw13_at:=PLift.up (@unfC _ _ (y11q1.eq_1))
def C_hourglasslaw13_at:LFn:=⟨5,[.many 2 2],(.seq (.sq [(zs 2 (.alloc false [(.s (.int .i64 0)),(.s (.int .u8 0))]))]) y11q1)⟩
def y11r1 (c:Nat→FuncId):LCode:=(.seq (.sq [(zs 7 (.mv false (.t 0))),(zs 8 (.mv false (.t 2))),(zs 9 (.call (.f (c 0)) [(.t 8)])),(zs 10 (.mv false (.t 1))),(zs 11 (.call (.f (c 1)) [(.t 10)])),(zs 12 (.build (zk ++ [(.s (.str [])),(.s (.bool false))]) [(0,16,(.t 11)),(16,1,(.c (.str [118])))])),(zs 13 (.bsl ⟨18,true,40,(.agg (zk ++ [(.s (.str [])),(.s (.bool false))]))⟩ 1 [(0,(.t 12))])),(zs 14 (.build [(.s (.int .i64 0)),(.s (.int .i64 0)),(.s (.int .u8 0)),(.s (.int .i64 0)),(.s (.int .u8 0)),(.s .nilS)] [(0,1,(.t 7)),(3,2,(.t 9)),(5,1,(.t 13))])),(zn (.store 6 (.t 6) (.t 14)))]) .ret)
def U_hourglasslaw13_of (c:Nat→FuncId):=PLift.up (@unfC _ _ (y11r1.eq_1 c))
def C_hourglasslaw13_of (c:Nat→FuncId):LFn:=⟨15,[.many 6 6],(.seq (.sq [(zs 6 (.alloc false [(.s (.int .i64 0)),(.s (.int .i64 0)),(.s (.int .u8 0)),(.s (.int .i64 0)),(.s (.int .u8 0)),(.s .nilS)]))]) (y11r1 c))⟩
def y11s1 (c:Nat→FuncId):LCode:=(.seq (.sq [(zs 27 (.mv false (.t 2))),(zs 28 (.bin .eql .sc (.t 27) (zi 0))),(zs 29 (.mv false (.t 28))),(zt 30 29 (.mv false (.t 4))),(zt 31 29 (.un .not (.t 30))),(zs 32 (.pick (.t 29) (.t 31) zF)),(zs 33 (.mv false (.t 32))),(zt 34 33 (.mv false (.t 6))),(zs 35 (.pick (.t 33) (.t 34) zF)),(zs 36 (.mv false (.t 35))),(zt 37 36 (.mv false (.t 5))),(zt 38 36 (.bin .eql .sc (.t 37) (zi 7))),(zs 39 (.pick (.t 36) (.t 38) zF)),(zs 40 (.mv false (.t 39))),(zt 41 40 (.mv false (.t 1))),(zt 42 40 (.call (.f (c 6)) [(.t 41)])),(zt 43 40 (.len .sl (.t 42))),(zt 44 40 (.bin .eql .sc (.t 43) (zi 1))),(zs 45 (.pick (.t 40) (.t 44) zF)),(zs 0 (.mv true (.t 45)))]) .ret)
def y11s2 (c:Nat→FuncId):LCode:=(.seq (.sq [(zs 21 (.mv false (.t 1))),(zs 22 (.call (.f (c 3)) [(.c (.str [97]))])),(zs 23 (.call (.f (c 5)) [(zi 5)])),(zs 24 (.call (.f (c 4)) [(.t 21),(.t 22),(.t 23)])),(zs 20 (.mv false (.t 24))),(zs 25 (.ext (.t 20) 0)),(zs 26 (.ext (.t 20) 1)),(zs 5 (.mv true (.t 25))),(zs 6 (.mv true (.t 26)))]) (y11s1 c))
def y11s3 (c:Nat→FuncId):LCode:=(.seq (.sq [(zs 14 (.mv false (.t 1))),(zs 15 (.call (.f (c 3)) [(.c (.str [97]))])),(zs 16 (.build [(.s (.int .i64 0)),(.s (.int .u8 0))] [(0,1,(zi 4)),(1,1,(.c (.int .u8 9)))])),(zs 17 (.call (.f (c 4)) [(.t 14),(.t 15),(.t 16)])),(zs 13 (.mv false (.t 17))),(zs 18 (.ext (.t 13) 0)),(zs 19 (.ext (.t 13) 1)),(zs 3 (.mv true (.t 18))),(zs 4 (.mv true (.t 19)))]) (y11s2 c))
def y11s4 (c:Nat→FuncId):LCode:=(.seq (.sq [(zs 10 (.mv false (.t 1))),(zs 11 (.call (.f (c 1)) [(zi 7),(.c (.str [97])),(zi 5)])),(zs 12 (.call (.f (c 2)) [(.t 10),(.t 11)])),(zs 2 (.mv true (.t 12)))]) (y11s3 c))
def y11s5 (c:Nat→FuncId):LCode:=(.seq (.seq (.sq [(zs 8 (.mv false (.t 1))),(zs 9 (.bin .eql (.ref 0) (.t 8) (.c .nilP)))]) (.cond (.t 9) (.seq (.sq [(zs 0 (.mv true zF))]) .ret) .skip)) (y11s4 c))
def U_hourglasslaw13_awake (c:Nat→FuncId):=PLift.up (zc (zc (@unfC _ _ (y11s1.eq_1 c)) (@unfC _ _ (y11s2.eq_1 c))) (zc (@unfC _ _ (y11s3.eq_1 c)) (zc (@unfC _ _ (y11s4.eq_1 c)) (@unfC _ _ (y11s5.eq_1 c)))))
def C_hourglasslaw13_awake (c:Nat→FuncId):LFn:=⟨46,[.t 0],(.seq (.sq [(zs 0 (.mv true zF))]) (.seq (.sq [(zs 7 (.call (.f (c 0)) [])),(zs 1 (.mv true (.t 7)))]) (y11s5 c)))⟩
end Go.AM
namespace Go.AM
open Go
open AV renaming undef → uu
set_option maxRecDepth 20000
def TextS (C:CallW) (f:FuncId):Prop:=∀(k:Key) S H K,K (.str (textOf k)) ⟨S,H⟩→C (.fn f) [.agg (bs k.b)] ⟨S,H⟩ K
def BoolK (g:Key→Bool) (C:CallW) (f:FuncId):Prop:=∀(k:Key) S H K,K (.bool (g k)) ⟨S,H⟩→C (.fn f) [.agg (bs k.b)] ⟨S,H⟩ K
theorem text_nz (k:Key):(0:UInt8)∉textOf k:=by
  intro h
  have h2:∀(l:List UInt8),(0:UInt8)∉l.takeWhile (· != 0):=by
    intro l
    induction l with
    | nil=>simp
    | cons x l ih =>
      rw [List.takeWhile_cons]
      split
      · rename_i hx
        intro h
        rcases List.mem_cons.1 h with h | h
        · subst h; simp at hx
        · exact ih h
      · simp
  exact h2 _ h
theorem text_len (k:Key):(textOf k).length≤16:=by
  have:=(List.takeWhile_sublist (fun x:UInt8=>x != 0) (l:=k.b)).length_le
  rw [k.h] at this
  exact this
def goodK (k:Key):Bool:=decide (textOf k≠[]) && decide (padK (textOf k)=k)
theorem good_of (k:Key):goodK k=(decide ((keyOf (textOf k)).2=0) && decide ((keyOf (textOf k)).1=k)):=by
  unfold goodK keyOf
  by_cases h:textOf k=[]
  · rw [if_pos (.inl h)]; simp [h]
  · rw [if_neg (by
      rintro (h1 | h1 | h1)
      · exact h h1
      · have:=text_len k; omega
      · exact text_nz k h1)]
    simp [h]
set_option maxHeartbeats 1000000 in
theorem key_Good_spec {C:CallW} (hC:LeC C C) (P:Program) {f1 f2:FuncId} (h1:TextS C f1) (h2:OfK C f2):∀(k:Key) S H K,K (.bool (goodK k)) ⟨S,H⟩→runL C P (C_key_Good f1 f2) [.agg (bs k.b)] ⟨S,H⟩ K:=by
  intro k S H K hK
  rw [good_of] at hK
  simp only [C_key_Good,RUN_,(u_C_key_Good_k1 _ _).1,(u_C_key_Good_k2 _ _).1,FR_,simprocAttr,if_true,if_false,ite_true,ite_false,ne_eq,eq_self,OPK_,KEY_]
  refine h1 _ _ _ _ ?_
  simp only [RUN_,(u_C_key_Good_k1 _ _).1,(u_C_key_Good_k2 _ _).1,FR_,simprocAttr,if_true,if_false,ite_true,ite_false,ne_eq,eq_self,OPK_,KEY_]
  refine h2 _ _ _ _ ?_
  by_cases he:(keyOf (textOf k)).2=0
  · simp only [RUN_,(u_C_key_Good_k1 _ _).1,(u_C_key_Good_k2 _ _).1,FR_,simprocAttr,if_true,if_false,ite_true,ite_false,ne_eq,eq_self,OPK_,KEY_,he]
    rw [he] at hK
    simpa using hK
  · simp only [RUN_,(u_C_key_Good_k1 _ _).1,(u_C_key_Good_k2 _ _).1,FR_,simprocAttr,if_true,if_false,ite_true,ite_false,ne_eq,eq_self,OPK_,KEY_,he]
    simpa [he] using hK
def goodL:Bool→List UInt8→Bool
  | _,[]=>true
  | e,x :: l=>if x=0 then goodL true l else if e then false else goodL false l
def goodR (k:Key):Bool:=goodL false k.b && decide (k.b[0]'(by rw [k.h]; omega)≠0)
theorem goodL_drop {e:Bool} {l:List UInt8} {i:Nat} (h:i < l.length):goodL e (l.drop i)=if l[i]=0 then goodL true (l.drop (i + 1)) else if e then false else goodL false (l.drop (i + 1)):=by
  rw [List.drop_eq_getElem_cons h]; rfl
theorem wrap_succ {i:Nat} (h:i < 4611686018427387904):IntKind.i64.wrap ((i:Int) + 1)=((i + 1:Nat):Int):=by rw [wrap_i64 (by omega) (by omega)]; rfl
theorem u8_zero {x:UInt8}:((x.toNat:Int)=0)↔x=0:=⟨fun h=>UInt8.toNat_inj.1 (by simp; omega),fun h=>by subst h; rfl⟩
set_option maxHeartbeats 1000000 in
theorem ref10_Good_spec {C:CallW} (hC:LeC C C) (P:Program):∀(k:Key) S H K,K (.bool (goodR k)) ⟨S,H⟩→runL C P C_hourglassref10_Good [.agg (bs k.b)] ⟨S,H⟩ K:=by
  intro k S H K hK
  have hkl:=k.h
  simp only [C_hourglassref10_Good,RUN_,u_C_hourglassref10_Good_k1.1,u_C_hourglassref10_Good_k2.1,u_C_hourglassref10_Good_k3.1,u_C_hourglassref10_Good_k4.1,u_C_hourglassref10_Good_k5.1,u_C_hourglassref10_Good_k6.1,u_C_hourglassref10_Good_k7.1,FR_,simprocAttr,if_true,if_false,ite_true,ite_false,ne_eq,eq_self,OPK_,KEY_]
  refine loop_rule hC (α:=Nat×Bool) (fun a=>16 - a.1) (fun a=>[.undef,.ptr (.stk S.length) 0,.undef,.bool a.2,.s (.int .i64 a.1),uu,uu,uu,uu,uu,uu,uu,uu,uu,uu,uu,uu]) (fun _=>S ++ [bs k.b]) (fun _=>H) (fun a=>a.1≤16∧goodL false k.b=goodL a.2 (k.b.drop a.1)) (0,false) ⟨by simp,by simp⟩ rfl (app_take_add _ _ _) rfl (fun i hi=>by simp [AV.under,AV.under.go]) ?_
  rintro ⟨i,e⟩ ⟨hi,hinv⟩ ih
  dsimp only at hi hinv ih ⊢
  by_cases h16:i < 16
  · have hb:=bs_get (l:=k.b) (i:=i) (by omega)
    have hw:=wrap_succ (i:=i) (by omega)
    have h1:((i:Int) < 16):=by omega
    have h2:(0:Int)≤(i:Int):=by omega
    rw [goodL_drop (by omega)] at hinv
    by_cases hz:k.b[i]'(by omega)=0
    · simp only [RUN_,u_C_hourglassref10_Good_k1.1,u_C_hourglassref10_Good_k2.1,u_C_hourglassref10_Good_k3.1,u_C_hourglassref10_Good_k4.1,u_C_hourglassref10_Good_k5.1,u_C_hourglassref10_Good_k6.1,u_C_hourglassref10_Good_k7.1,FR_,simprocAttr,if_true,if_false,ite_true,ite_false,ne_eq,eq_self,OPK_,KEY_,indexAddrL,h1,h2,hb,u8,hz,UInt8.toNat_zero,hw,Nat.mul_one]
      rw [if_pos hz] at hinv
      exact ih (i + 1,true) _ _ _ (by simp; omega) ⟨by simp; omega,hinv⟩ rfl (app_take_add _ _ _) rfl
    · have hz':¬(((k.b[i]'(by omega)).toNat:Int)=0):=fun e=>hz (u8_zero.1 e)
      rw [if_neg hz] at hinv
      cases e with
      | true =>
        have:goodR k=false:=by unfold goodR; rw [hinv]; rfl
        rw [this] at hK
        simp only [RUN_,u_C_hourglassref10_Good_k1.1,u_C_hourglassref10_Good_k2.1,u_C_hourglassref10_Good_k3.1,u_C_hourglassref10_Good_k4.1,u_C_hourglassref10_Good_k5.1,u_C_hourglassref10_Good_k6.1,u_C_hourglassref10_Good_k7.1,FR_,simprocAttr,if_true,if_false,ite_true,ite_false,ne_eq,eq_self,OPK_,KEY_,indexAddrL,h1,h2,hb,u8,hz',hw,Nat.mul_one]
        exact hK
      | false =>
        simp only [RUN_,u_C_hourglassref10_Good_k1.1,u_C_hourglassref10_Good_k2.1,u_C_hourglassref10_Good_k3.1,u_C_hourglassref10_Good_k4.1,u_C_hourglassref10_Good_k5.1,u_C_hourglassref10_Good_k6.1,u_C_hourglassref10_Good_k7.1,FR_,simprocAttr,if_true,if_false,ite_true,ite_false,ne_eq,eq_self,OPK_,KEY_,indexAddrL,h1,h2,hb,u8,hz',hw,Nat.mul_one]
        exact ih (i + 1,false) _ _ _ (by simp; omega) ⟨by simp; omega,by simpa using hinv⟩ rfl (app_take_add _ _ _) rfl
  · have h1:¬((i:Int) < 16):=by omega
    have hb:=bs_get (l:=k.b) (i:=0) (by omega)
    have hd:k.b.drop i=[]:=List.drop_of_length_le (by omega)
    rw [hd] at hinv
    have hz:(((k.b[0]'(by omega)).toNat:Int)=0)↔k.b[0]'(by omega)=0:=u8_zero
    have hg:goodR k=decide (k.b[0]'(by omega)≠0):=by unfold goodR; rw [hinv]; rfl
    rw [hg] at hK
    simp only [RUN_,u_C_hourglassref10_Good_k1.1,u_C_hourglassref10_Good_k2.1,u_C_hourglassref10_Good_k3.1,u_C_hourglassref10_Good_k4.1,u_C_hourglassref10_Good_k5.1,u_C_hourglassref10_Good_k6.1,u_C_hourglassref10_Good_k7.1,FR_,simprocAttr,if_true,if_false,ite_true,ite_false,ne_eq,eq_self,OPK_,KEY_,indexAddrL,h1,hb,u8,hz,Nat.mul_one]
    simpa using hK
end Go.AM
namespace Go.AM
open Go
theorem find_no:∀(es:List Entry) (l:List Key) (k:Key) (i:Nat),es.map (·.key)=l.map kA→k∉l→findL (.leaf lk) (.agg (bs k.b)) es i=some none
  | [],l,k,i,_,_=>rfl
  | e :: es,[],k,i,h,_=>by simp at h
  | e :: es,a :: l,k,i,h,hk=>by
    simp only [List.map_cons,List.cons.injEq] at h
    have hne:¬(k=a):=fun e=>hk (by rw [e]; simp)
    have hq:keyEqL (.leaf lk) (.agg (bs k.b)) e.key=some false:=by
      rw [h.1]
      simp only [keyEqL,KK.fits,kA,fits_k,and_self,if_true,AV.beq,beq_kk,hne,decide_false]
    rw [findL,hq]
    exact find_no es l k (i + 1) h.2 (fun m=>hk (List.mem_cons_of_mem _ m))
theorem find_yes:∀(es:List Entry) (l:List Key) (k:Key) (i:Nat),es.map (·.key)=l.map kA→k∈l→∃j e,es[j]? = some e∧l[j]? = some k∧findL (.leaf lk) (.agg (bs k.b)) es i=some (some (i + j,e))
  | [],l,k,i,h,hk=>by cases l with
    | nil=>simp at hk
    | cons=>simp at h
  | e :: es,[],k,i,h,_=>by simp at h
  | e :: es,a :: l,k,i,h,hk=>by
    simp only [List.map_cons,List.cons.injEq] at h
    by_cases hne:k=a
    · subst hne
      have hq:keyEqL (.leaf lk) (.agg (bs k.b)) e.key=some true:=by
        rw [h.1]
        simp only [keyEqL,KK.fits,kA,fits_k,and_self,if_true,AV.beq,beq_kk,decide_true]
      refine ⟨0,e,rfl,rfl,?_⟩
      rw [findL,hq]; rfl
    · have hq:keyEqL (.leaf lk) (.agg (bs k.b)) e.key=some false:=by
        rw [h.1]
        simp only [keyEqL,KK.fits,kA,fits_k,and_self,if_true,AV.beq,beq_kk,hne,decide_false]
      have hk':k∈l:=by
        rcases List.mem_cons.1 hk with h | h
        · exact absurd h hne
        · exact h
      obtain ⟨j,e',h1,h2,h3⟩:=find_yes es l k (i + 1) h.2 hk'
      refine ⟨j + 1,e',h1,h2,?_⟩
      rw [findL,hq]
      show findL (.leaf lk) (.agg (bs k.b)) es (i + 1)=_
      rw [h3]
      congr 3; omega
def seenE (l:List Key):List Entry:=l.zipIdx.map fun p=>⟨kA p.1,.bool true,p.2⟩
theorem seenE_keys (l:List Key):(seenE l).map (·.key)=l.map kA:=by
  unfold seenE
  rw [List.map_map]
  have:((fun x:Entry=>x.key) ∘ fun p:Key×Nat=>(⟨kA p.1,.bool true,p.2⟩:Entry))=kA ∘ Prod.fst:=rfl
  rw [this,←List.map_map,List.zipIdx_map_fst]
theorem seenE_snoc (l:List Key) (k:Key):seenE (l ++ [k])=seenE l ++ [⟨kA k,.bool true,l.length⟩]:=by
  unfold seenE
  rw [List.zipIdx_append]; simp
theorem seenE_val {l:List Key} {j:Nat} {e:Entry} (h:(seenE l)[j]? = some e):e.val = .bool true:=by
  unfold seenE at h
  rw [List.getElem?_map] at h
  cases hz:l.zipIdx[j]? with
  | none=>rw [hz] at h; simp at h
  | some p=>rw [hz] at h; simp at h; rw [←h]
theorem look_seen {S:List (List AV)} {H:List HObj} {l:List Key} {k:Key} {n:Nat}:lookupL (.leaf lk) (.s (.bool false)) false (.map H.length) (.agg (bs k.b)) ⟨S,H ++ [.map (seenE l) n]⟩=some (.s (.bool (decide (k∈l)))):=by
  have hm:mapOf ⟨S,H ++ [.map (seenE l) n]⟩ (.map H.length)=some (seenE l,n):=by simp [mapOf]
  simp only [lookupL,KK.fits,fits_k,if_true,hm]
  by_cases h:k∈l
  · obtain ⟨j,e,h1,h2,h3⟩:=find_yes _ _ k 0 (seenE_keys l) h
    rw [h3]
    simp [seenE_val h1,h]
  · rw [find_no _ _ k 0 (seenE_keys l) h]
    simp [h]
theorem upd_seen {S:List (List AV)} {H:List HObj} {l:List Key} {k:Key} {n:Nat} (h:k∉l) (hn:l.length=n):updateL (.leaf lk) (.map H.length) (.agg (bs k.b)) (.s (.bool true)) ⟨S,H ++ [.map (seenE l) n]⟩=some ⟨S,H ++ [.map (seenE (l ++ [k])) (n + 1)]⟩:=by
  subst hn
  have hm:mapOf ⟨S,H ++ [.map (seenE l) l.length]⟩ (.map H.length)=some (seenE l,l.length):=by simp [mapOf]
  simp only [updateL,KK.fits,fits_k,AV.under,and_self,if_true,hm]
  rw [find_no _ _ k 0 (seenE_keys l) h]
  simp only [setMap,app_set0,List.set_cons_zero,seenE_snoc,List.length_append,List.length_cons,List.length_nil]
  rfl
def sgood (seen:List Key):List Wr→Bool
  | []=>true
  | w :: l=>if goodK w.key=false then false else if w.key∈seen then false else if 200 < w.val.length then false else if w.gone=true∧w.val≠[] then false else sgood (seen ++ [w.key]) l
end Go.AM
namespace Go.AM
open Go
set_option maxRecDepth 20000
end Go.AM
namespace Go.AM
open Go
set_option maxRecDepth 20000
end Go.AM
namespace Go.AM
open Go
set_option maxRecDepth 20000
def cmpK (a b:Key):Int:=Lib.compareBytes a.b b.b
def withinK (k a b:Key):Bool:=decide (0≤cmpK k a) && (decide (b=key0) || decide (cmpK k b < 0))
end Go.AM
namespace Go.AM
open Go
set_option maxRecDepth 20000
def cntK (k:Key):List Key→Nat
  | []=>0
  | p :: l=>(if cmpK p k≤0 then 1 else 0) + cntK k l
end Go.AM
namespace Go.AM
open Go
open AV renaming undef → uu
set_option maxRecDepth 20000
theorem pad_set {s:List UInt8} {i:Nat} (h:i < s.length) (hs:s.length≤16):(bs (padB (s.take i))).set i (u8 s[i])=bs (padB (s.take (i + 1))):=by
  have e:∀(t:List UInt8),t.length≤16→padB t=t ++ List.replicate (16 - t.length) 0:=fun t ht=>by unfold padB; rw [List.take_of_length_le ht]
  rw [e _ (by simp; omega),e _ (by simp; omega)]
  have h1:(s.take i).length=i:=by simp; omega
  have h2:(s.take (i + 1)).length=i + 1:=by simp; omega
  rw [h1,h2,show 16 - i=(16 - (i + 1)) + 1 by omega,List.replicate_succ]
  simp only [bs,List.map_append,List.map_cons]
  rw [List.set_append_right _ _ (by rw [List.length_map,h1]; exact Nat.le_refl _)]
  simp only [List.length_map,h1,Nat.sub_self,List.set_cons_zero]
  rw [List.take_succ_eq_append_getElem h]
  simp only [List.map_append,List.map_cons,List.map_nil,List.append_assoc,List.cons_append,List.nil_append]
def OfR (C:CallW) (f:FuncId):Prop:=∀(s:List UInt8) (S:List (List AV)) (H:List HObj) (K:AV→St→Prop),K (.tup [.agg (bs (keyOf s).1.b),.bool (decide ((keyOf s).2=0))]) ⟨S,H⟩→C (.fn f) [.s (.str s)] ⟨S,H⟩ K
set_option maxHeartbeats 2000000 in
theorem ref10_Of_spec {C:CallW} (hC:LeC C C) (P:Program):∀(s:List UInt8) (S:List (List AV)) (H:List HObj) (K:AV→St→Prop),K (.tup [.agg (bs (keyOf s).1.b),.bool (decide ((keyOf s).2=0))]) ⟨S,H⟩→runL C P C_hourglassref10_Of [.s (.str s)] ⟨S,H⟩ K:=by
  intro s S H K hK
  have key0l:(bs key0.b).length=16:=rfl
  have bad:badT s→K (.tup [.agg (bs key0.b),.bool false]) ⟨S,H⟩:=fun h=>by
    rw [show keyOf s=(key0,1) from if_pos h] at hK; exact hK
  by_cases h0:s.length < 1
  · have h0':((s.length:Int) < 1):=by omega
    simp only [C_hourglassref10_Of,RUN_,u_C_hourglassref10_Of_k1.1,u_C_hourglassref10_Of_k2.1,u_C_hourglassref10_Of_k3.1,u_C_hourglassref10_Of_k4.1,u_C_hourglassref10_Of_k5.1,u_C_hourglassref10_Of_k6.1,u_C_hourglassref10_Of_k7.1,u_C_hourglassref10_Of_k8.1,u_C_hourglassref10_Of_k9.1,u_C_hourglassref10_Of_k10.1,FR_,simprocAttr,if_true,if_false,ite_true,ite_false,ne_eq,eq_self,OPK_,KEY_,h0']
    exact bad (.inl (List.length_eq_zero_iff.1 (by omega)))
  · have h0':¬((s.length:Int) < 1):=by omega
    by_cases h1:16 < s.length
    · have h1':(16:Int) < (s.length:Int):=by omega
      simp only [C_hourglassref10_Of,RUN_,u_C_hourglassref10_Of_k1.1,u_C_hourglassref10_Of_k2.1,u_C_hourglassref10_Of_k3.1,u_C_hourglassref10_Of_k4.1,u_C_hourglassref10_Of_k5.1,u_C_hourglassref10_Of_k6.1,u_C_hourglassref10_Of_k7.1,u_C_hourglassref10_Of_k8.1,u_C_hourglassref10_Of_k9.1,u_C_hourglassref10_Of_k10.1,FR_,simprocAttr,if_true,if_false,ite_true,ite_false,ne_eq,eq_self,OPK_,KEY_,h0',h1']
      exact bad (.inr (.inl h1))
    · have h1':¬((16:Int) < (s.length:Int)):=by omega
      simp only [C_hourglassref10_Of,RUN_,u_C_hourglassref10_Of_k1.1,u_C_hourglassref10_Of_k2.1,u_C_hourglassref10_Of_k3.1,u_C_hourglassref10_Of_k4.1,u_C_hourglassref10_Of_k5.1,u_C_hourglassref10_Of_k6.1,u_C_hourglassref10_Of_k7.1,u_C_hourglassref10_Of_k8.1,u_C_hourglassref10_Of_k9.1,u_C_hourglassref10_Of_k10.1,FR_,simprocAttr,if_true,if_false,ite_true,ite_false,ne_eq,eq_self,OPK_,KEY_,h0',h1']
      refine loop_rule hC (α:=Nat) (fun a=>s.length - a) (fun a=>[.s (.str s),.undef,.ptr (.stk S.length) 0,.undef,.ptr (.stk (S.length + 1)) 0,.s (.int .i64 a),uu,uu,uu,uu,uu,uu,uu,uu,uu,uu,uu,uu,uu,uu,uu,uu,uu,uu,uu,uu,uu,uu,uu,uu,uu,uu,uu]) (fun a=>S ++ [bs key0.b,bs (padB (s.take a))]) (fun _=>H) (fun i=>i≤s.length∧∀j,(hj:j < i)→(hj':j < s.length)→s[j]≠0) 0 ⟨by simp,fun j hj=>by omega⟩ rfl (by rw [app_take_add]; rfl) rfl (fun i hi=>by simp [AV.under,AV.under.go]) ?_
      rintro i ⟨hi,hall⟩ ih
      have hpl:∀t,(bs (padB t)).length=16:=fun t=>by rw [bs_length]; exact (padK t).h
      by_cases h16:i < s.length
      · have hlt:((i:Int) < (s.length:Int)):=by omega
        have h16':((i:Int) < 16):=by omega
        have hge:(0:Int)≤(i:Int):=by omega
        have hw:=wrap_succ (i:=i) (by omega)
        have hg:s.getD i 0=s[i]:=by simp [List.getD,h16]
        by_cases hz:s[i]=0
        · simp only [RUN_,u_C_hourglassref10_Of_k1.1,u_C_hourglassref10_Of_k2.1,u_C_hourglassref10_Of_k3.1,u_C_hourglassref10_Of_k4.1,u_C_hourglassref10_Of_k5.1,u_C_hourglassref10_Of_k6.1,u_C_hourglassref10_Of_k7.1,u_C_hourglassref10_Of_k8.1,u_C_hourglassref10_Of_k9.1,u_C_hourglassref10_Of_k10.1,FR_,simprocAttr,if_true,if_false,ite_true,ite_false,ne_eq,eq_self,OPK_,KEY_,hlt,hge,hg,hz,UInt8.toNat_zero,hpl]
          exact bad (.inr (.inr (hz▸List.getElem_mem h16)))
        · have hz':¬(((s[i]).toNat:Int)=0):=fun e=>hz (u8_zero.1 e)
          have hps:=pad_set h16 (by omega)
          have hi16:i < 16:=by omega
          unfold u8 at hps
          simp only [RUN_,u_C_hourglassref10_Of_k1.1,u_C_hourglassref10_Of_k2.1,u_C_hourglassref10_Of_k3.1,u_C_hourglassref10_Of_k4.1,u_C_hourglassref10_Of_k5.1,u_C_hourglassref10_Of_k6.1,u_C_hourglassref10_Of_k7.1,u_C_hourglassref10_Of_k8.1,u_C_hourglassref10_Of_k9.1,u_C_hourglassref10_Of_k10.1,FR_,simprocAttr,if_true,if_false,ite_true,ite_false,ne_eq,eq_self,OPK_,KEY_,hlt,hge,hg,hz',hpl,indexAddrL,h16',hw,Nat.mul_one,hi16,hps]
          exact ih (i + 1) _ _ _ (by omega) ⟨by omega,fun j hj hj'=>by
            rcases Nat.lt_or_ge j i with h | h
            · exact hall j h hj'
            · have:j=i:=by omega
              subst this; exact hz⟩ rfl (app_take_add _ _ _) rfl
      · have hlt:¬((i:Int) < (s.length:Int)):=by omega
        have hnb:¬badT s:=by
          rintro (h | h | h)
          · rw [h] at h0; exact h0 (by simp)
          · exact h1 h
          · obtain ⟨j,hj,e⟩:=List.getElem_of_mem h
            exact hall j (by omega) hj e
        have hp:padB (s.take i)=padB s:=by rw [List.take_of_length_le (by omega)]
        rw [show keyOf s=(padK s,0) from if_neg hnb] at hK
        have e2:(bs (padB s)).take 16=bs (padB s):=List.take_of_length_le (by rw [hpl]; omega)
        simp only [RUN_,u_C_hourglassref10_Of_k1.1,u_C_hourglassref10_Of_k2.1,u_C_hourglassref10_Of_k3.1,u_C_hourglassref10_Of_k4.1,u_C_hourglassref10_Of_k5.1,u_C_hourglassref10_Of_k6.1,u_C_hourglassref10_Of_k7.1,u_C_hourglassref10_Of_k8.1,u_C_hourglassref10_Of_k9.1,u_C_hourglassref10_Of_k10.1,FR_,simprocAttr,if_true,if_false,ite_true,ite_false,ne_eq,eq_self,OPK_,KEY_,hlt,hp,hpl,e2]
        exact hK
def kS (C:CallW) (f:FuncId):Prop:=∀(s:List UInt8) (S:List (List AV)) (H:List HObj) (K:AV→St→Prop),K (.agg (bs (keyOf s).1.b)) ⟨S,H⟩→C (.fn f) [.s (.str s)] ⟨S,H⟩ K
set_option maxHeartbeats 1000000 in
theorem law_k_spec {C:CallW} (hC:LeC C C) (P:Program) {f:FuncId} (hf:OfR C f):∀(s:List UInt8) (S:List (List AV)) (H:List HObj) (K:AV→St→Prop),K (.agg (bs (keyOf s).1.b)) ⟨S,H⟩→runL C P (C_hourglasslaw17_k f) [.s (.str s)] ⟨S,H⟩ K:=by
  intro s S H K hK
  simp only [C_hourglasslaw17_k,RUN_,(u_C_hourglasslaw17_k_k1 _).1,FR_,simprocAttr,if_true,if_false,ite_true,ite_false,ne_eq,eq_self,OPK_,KEY_]
  refine hf _ _ _ _ ?_
  simp only [RUN_,(u_C_hourglasslaw17_k_k1 _).1,FR_,simprocAttr,if_true,if_false,ite_true,ite_false,ne_eq,eq_self,OPK_,KEY_]
  exact hK
end Go.AM
namespace Go.AM
open Go
open AV renaming undef → uu
set_option maxRecDepth 20000
def longW (l:List Wr):Bool:=decide (20 < l.length) || l.any fun w=>decide (250 < w.val.length)
set_option maxHeartbeats 1000000 in
theorem long_spec {C:CallW} (hC:LeC C C) (P:Program):∀(l:List Wr) S H (K:AV→St→Prop),l.length≤9223372036854775807→K (.bool (longW l)) ⟨S,H⟩→runL C P C_hourglasslaw17_long [lstW l] ⟨S,H⟩ K:=by
  intro l S H K hl hK
  by_cases h20:20 < l.length
  · have h20':(20:Int) < (l.length:Int):=by omega
    simp only [lstW,C_hourglasslaw17_long,RUN_,u_C_hourglasslaw17_long_k1.1,u_C_hourglasslaw17_long_k2.1,u_C_hourglasslaw17_long_k3.1,u_C_hourglasslaw17_long_k4.1,u_C_hourglasslaw17_long_k5.1,u_C_hourglasslaw17_long_k6.1,FR_,simprocAttr,if_true,if_false,ite_true,ite_false,ne_eq,eq_self,OPK_,KEY_,h20']
    rw [show longW l=true by simp [longW,h20]] at hK
    exact hK
  · have h20':¬((20:Int) < (l.length:Int)):=by omega
    simp only [lstW,C_hourglasslaw17_long,RUN_,u_C_hourglasslaw17_long_k1.1,u_C_hourglasslaw17_long_k2.1,u_C_hourglasslaw17_long_k3.1,u_C_hourglasslaw17_long_k4.1,u_C_hourglasslaw17_long_k5.1,u_C_hourglasslaw17_long_k6.1,FR_,simprocAttr,if_true,if_false,ite_true,ite_false,ne_eq,eq_self,OPK_,KEY_,h20']
    rw [show longW l=l.any fun w=>decide (250 < w.val.length) by simp [longW,h20]] at hK
    refine loop_rule hC (α:=Nat) (fun a=>l.length - a) (fun a=>[.list .sh 18 (l.map wA),uu,uu,.s (.int .i64 a),uu,uu,uu,uu,uu,uu,uu,uu,uu,uu,uu,uu,uu,uu,uu,uu]) (fun _=>S) (fun _=>H) (fun i=>i≤l.length∧(l.any fun w=>decide (250 < w.val.length))=(l.drop i).any fun w=>decide (250 < w.val.length)) 0 ⟨by simp,rfl⟩ rfl (by simp) rfl (fun i hi=>by simp [AV.under,AV.under.go]) ?_
    rintro i ⟨hi,hinv⟩ ih
    by_cases h16:i < l.length
    · have hlt:((i:Int) < (l.length:Int)):=by omega
      have hw:=wrap_succ (i:=i) (by omega)
      rw [List.drop_eq_getElem_cons h16,List.any_cons] at hinv
      by_cases hv:250 < (l[i]).val.length
      · have hv':(250:Int) < ((l[i]).val.length:Int):=by omega
        simp only [RUN_,u_C_hourglasslaw17_long_k1.1,u_C_hourglasslaw17_long_k2.1,u_C_hourglasslaw17_long_k3.1,u_C_hourglasslaw17_long_k4.1,u_C_hourglasslaw17_long_k5.1,u_C_hourglasslaw17_long_k6.1,FR_,simprocAttr,if_true,if_false,ite_true,ite_false,ne_eq,eq_self,OPK_,KEY_,WR_,hlt,h16,hv']
        rw [hinv,decide_eq_true hv,Bool.true_or] at hK
        exact hK
      · have hv':¬((250:Int) < ((l[i]).val.length:Int)):=by omega
        rw [decide_eq_false hv,Bool.false_or] at hinv
        simp only [RUN_,u_C_hourglasslaw17_long_k1.1,u_C_hourglasslaw17_long_k2.1,u_C_hourglasslaw17_long_k3.1,u_C_hourglasslaw17_long_k4.1,u_C_hourglasslaw17_long_k5.1,u_C_hourglasslaw17_long_k6.1,FR_,simprocAttr,if_true,if_false,ite_true,ite_false,ne_eq,eq_self,OPK_,KEY_,WR_,hlt,h16,hv',hw]
        exact ih (i + 1) _ _ _ (by omega) ⟨by omega,hinv⟩ rfl (by simp) rfl
    · have hlt:¬((i:Int) < (l.length:Int)):=by omega
      rw [List.drop_of_length_le (by omega)] at hinv
      rw [hinv] at hK
      simp only [RUN_,u_C_hourglasslaw17_long_k1.1,u_C_hourglasslaw17_long_k2.1,u_C_hourglasslaw17_long_k3.1,u_C_hourglasslaw17_long_k4.1,u_C_hourglasslaw17_long_k5.1,u_C_hourglasslaw17_long_k6.1,FR_,simprocAttr,if_true,if_false,ite_true,ite_false,ne_eq,eq_self,OPK_,KEY_,hlt]
      exact hK
end Go.AM
namespace Go.AM
open Go
set_option maxRecDepth 20000
def aboveK (l:List Key) (a:Key) (i:Nat):Bool:=match l[i]? with
  | some p=>decide (0 < cmpK p a)
  | none=>true
def belowK (l:List Key) (b:Key) (i:Nat):Bool:=decide (i=0) || decide (b=key0) || (match l[i - 1]? with
  | some p=>decide (cmpK p b < 0)
  | none=>true)
def covUp (l:List Key) (a b:Key) (n:Nat):List Nat:=(List.range n).filter fun i=>aboveK l a i && belowK l b i
def coverK (l:List Key) (a b:Key):List Nat:=if b≠key0∧cmpK b a≤0 then [] else covUp l a b (l.length + 1)
end Go.AM
namespace Go.AM
open Go
set_option maxRecDepth 20000
def Steps (c:List Nat):Prop:=∀i,0 < i→(h:i < c.length)→c[i]=c[i - 1] + 1
structure WholeP (pts:List Key) (a b fr to:Key):Prop where
  good:∀k,goodR k=true→goodK k=true
  lt:cntK a pts≤pts.length
  mono:cmpK a b≤0→cntK a pts≤cntK b pts
  cons:Steps (coverK pts fr to)
  small:∀x∈coverK pts fr to,x≤pts.length
  mem:withinK a fr to=true→cntK a pts∈coverK pts fr to
end Go.AM
namespace Go.AM
open Go
theorem goodL_true:∀{l:List UInt8},goodL true l=true→l=List.replicate l.length 0
  | [],_=>rfl
  | x :: l,h=>by
    simp only [goodL] at h
    by_cases hx:x=0
    · rw [if_pos hx] at h
      subst hx
      rw [List.length_cons,List.replicate_succ,←goodL_true h]
    · rw [if_neg hx] at h; simp at h
theorem goodL_split:∀{l:List UInt8},goodL false l=true→∃m,l=l.takeWhile (· != 0) ++ List.replicate m 0
  | [],_=>⟨0,rfl⟩
  | x :: l,h=>by
    simp only [goodL] at h
    by_cases hx:x=0
    · rw [if_pos hx] at h
      subst hx
      refine ⟨l.length + 1,?_⟩
      rw [List.replicate_succ,←goodL_true h]; simp
    · rw [if_neg hx] at h
      obtain ⟨m,hm⟩:=goodL_split (l:=l) (by simpa using h)
      refine ⟨m,?_⟩
      rw [List.takeWhile_cons]
      have:(x != 0)=true:=by simpa using hx
      rw [this]
      simp only [if_true,List.cons_append]
      rw [←hm]
theorem good_R {k:Key} (h:goodR k=true):goodK k=true:=by
  unfold goodR at h
  rw [Bool.and_eq_true] at h
  obtain ⟨h1,h2⟩:=h
  have h2:k.b[0]'(by rw [k.h]; omega)≠0:=by simpa using h2
  obtain ⟨m,hm⟩:=goodL_split h1
  have hne:textOf k≠[]:=by
    unfold textOf
    intro e
    rw [e,List.nil_append] at hm
    apply h2
    have:∀(l:List UInt8) (hl:0 < l.length),l=List.replicate m 0→l[0]=0:=by
      intro l hl e; subst e; simp
    exact this _ _ hm
  have hpad:padK (textOf k)=k:=by
    apply Key.ext'
    show padB (textOf k)=k.b
    have hl:=text_len k
    unfold padB
    rw [List.take_of_length_le hl]
    have hlen:(textOf k).length + m=16:=by
      have:=congrArg List.length hm
      rw [k.h,List.length_append,List.length_replicate] at this
      exact this.symm
    rw [show 16 - (textOf k).length=m by omega]
    exact hm.symm
  unfold goodK
  simp [hne,hpad]
end Go.AM
namespace Go.AM
open Go
open AV renaming undef → uu
set_option maxRecDepth 20000
theorem goodL_zeros:∀(e:Bool) (n:Nat),goodL e (List.replicate n 0)=true
  | e,0=>by cases e <;> rfl
  | e,n + 1=>by
    rw [List.replicate_succ,goodL,if_pos rfl]; exact goodL_zeros true n
theorem goodL_text:∀(t:List UInt8) (n:Nat),(0:UInt8)∉t→goodL false (t ++ List.replicate n 0)=true
  | [],n,_=>goodL_zeros false n
  | x :: t,n,h=>by
    have hx:x≠0:=fun e=>h (by rw [e]; simp)
    rw [List.cons_append,goodL,if_neg hx]
    exact goodL_text t n (fun m=>h (List.mem_cons_of_mem _ m))
theorem goodRK (k:Key):goodR k=goodK k:=by
  cases h:goodK k with
  | false =>
    cases h2:goodR k with
    | false=>rfl
    | true=>rw [good_R h2] at h; cases h
  | true =>
    unfold goodK at h
    simp only [Bool.and_eq_true,decide_eq_true_eq] at h
    obtain ⟨h1,h2⟩:=h
    have hb:k.b=textOf k ++ List.replicate (16 - (textOf k).length) 0:=by
      have:k.b=padB (textOf k):=(congrArg Key.b h2).symm
      rw [padB,List.take_of_length_le (text_len k)] at this
      exact this
    unfold goodR
    have hg:goodL false k.b=true:=by rw [hb]; exact goodL_text _ _ (text_nz k)
    rw [hg,Bool.true_and,decide_eq_true_eq]
    intro e
    apply h1
    unfold textOf
    cases hk:k.b with
    | nil=>rfl
    | cons x l =>
      have:x=0:=by simpa [hk] using e
      rw [List.takeWhile_cons,if_neg (by simp [this])]
def GoodWS (C:CallW) (f:FuncId):Prop:=∀(l:List Wr) S H (K:AV→St→Prop),l.length≤9223372036854775807→(∀G,K (.bool (sgood [] l)) ⟨S,H ++ G⟩)→C (.fn f) [lstW l] ⟨S,H⟩ K
set_option maxHeartbeats 8000000 in
theorem store_Good_spec {C:CallW} (hC:LeC C C) (P:Program) {c:Nat→FuncId} (h0:BoolK goodK C (c 0)):∀(l:List Wr) S H (K:AV→St→Prop),l.length≤9223372036854775807→(∀G,K (.bool (sgood [] l)) ⟨S,H ++ G⟩)→runL C P (C_store_Good c) [lstW l] ⟨S,H⟩ K:=by
  intro l S H K hl hK
  simp only [lstW,C_store_Good,A_,simprocAttr,ne_eq,(U_store_Good _).1]
  refine loop_rule hC (α:=Nat) (fun a=>l.length - a) (fun a=>[uu,uu,uu,.map H.length,uu,uu,uu,.list .sh 18 (l.map wA),.s (.int .i64 l.length),.s (.int .i64 a),uu,uu,uu,uu,uu,uu,uu,uu,uu,uu,uu,uu,uu,uu,uu,uu,uu,uu,uu,uu,uu,uu,uu,uu,uu,uu,uu,uu,uu,uu,uu,uu]) (fun _=>S) (fun a=>H ++ [.map (seenE ((l.take a).map Wr.key)) a]) (fun a=>a≤l.length∧sgood [] l=sgood ((l.take a).map Wr.key) (l.drop a)) 0 ⟨by simp,by simp⟩ rfl (by simp) rfl (fun a _=>by simp [AV.under,AV.under.go]) ?_
  rintro i ⟨hi,hinv⟩ ih
  by_cases h16:i < l.length
  · have hlt:((i:Int) < (l.length:Int)):=by omega
    have hw:IntKind.i64.wrap ((i:Int) + 1)=(i:Int) + 1:=wrap_i64 (by omega) (by omega)
    have htk:(l.take (i + 1)).map Wr.key=(l.take i).map Wr.key ++ [(l[i]).key]:=by rw [List.take_succ_eq_append_getElem h16,List.map_append]; rfl
    rw [List.drop_eq_getElem_cons h16,sgood,←htk] at hinv
    simp only [A_,simprocAttr,ne_eq,(U_store_Good _).1,hlt,h16]
    refine h0 _ _ _ _ ?_
    cases e1:goodK (l[i]).key with
    | false =>
      rw [if_pos e1] at hinv
      rw [hinv] at hK
      simp only [A_,simprocAttr,ne_eq,(U_store_Good _).1]
      exact hK _
    | true =>
      rw [if_neg (by simp [e1])] at hinv
      simp only [A_,simprocAttr,ne_eq,(U_store_Good _).1,look_seen]
      by_cases e2:(l[i]).key∈(l.take i).map Wr.key
      · rw [if_pos e2] at hinv
        rw [hinv] at hK
        simp only [A_,simprocAttr,ne_eq,(U_store_Good _).1,e2]
        exact hK _
      · rw [if_neg e2] at hinv
        have hup:=upd_seen (S:=S ++ [wc l[i]]) (H:=H) (n:=i) e2 (by simp; omega)
        rw [←htk] at hup
        by_cases e3:200 < (l[i]).val.length
        · have e3':((200:Int) < ((l[i]).val.length:Int)):=by omega
          rw [if_pos e3] at hinv
          rw [hinv] at hK
          simp only [A_,simprocAttr,ne_eq,(U_store_Good _).1,e2,e3']
          exact hK _
        · have e3':¬((200:Int) < ((l[i]).val.length:Int)):=by omega
          rw [if_neg e3] at hinv
          cases e4:(l[i]).gone with
          | false =>
            rw [if_neg (by simp [e4])] at hinv
            simp only [A_,simprocAttr,ne_eq,(U_store_Good _).1,e2,e3',e4,hup,hw]
            exact ih (i + 1) _ _ _ (by omega) ⟨by omega,hinv⟩ rfl (by simp) rfl
          | true =>
            by_cases e5:(l[i]).val=[]
            · rw [if_neg (by simp [e5])] at hinv
              have e5':=eq_true e5
              simp only [A_,simprocAttr,ne_eq,(U_store_Good _).1,e2,e3',e4,e5',hup,hw]
              exact ih (i + 1) _ _ _ (by omega) ⟨by omega,hinv⟩ rfl (by simp) rfl
            · rw [if_pos ⟨e4,e5⟩] at hinv
              rw [hinv] at hK
              simp only [A_,simprocAttr,ne_eq,(U_store_Good _).1,e2,e3',e4,e5]
              exact hK _
  · have hlt:¬((i:Int) < (l.length:Int)):=by omega
    rw [List.drop_of_length_le (by omega)] at hinv
    rw [hinv] at hK
    simp only [A_,simprocAttr,ne_eq,(U_store_Good _).1,hlt]
    exact hK _
end Go.AM
namespace Go.AM
open Go
open AV renaming undef → uu
set_option maxRecDepth 20000
theorem drop17_wc (w:Wr):(wc w).drop 17=[.s (.bool w.gone)]:=by rw [wc,show (17:Nat)=(bs w.key.b).length + 1 by rw [kc_length],List.drop_append]; simp
def mayW (least:Nat) (l:List Wr):Bool:=decide (least≤l.length) && decide (l.length≤16) && sgood [] l
set_option maxHeartbeats 16000000 in
theorem ref10_MayWrites_spec {C:CallW} (hC:LeC C C) (P:Program) {c:Nat→FuncId} (h0:BoolK goodR C (c 0)):∀(l:List Wr) (least:Nat) S H (K:AV→St→Prop),l.length≤9223372036854775807→K (.bool (mayW least l)) ⟨S,H⟩→runL C P (C_hourglassref10_MayWrites c) [lstW l,.s (.int .i64 least)] ⟨S,H⟩ K:=by
  intro l least S H K hl hK
  unfold mayW at hK
  by_cases hx1:l.length < least
  · have hx1':((l.length:Int) < (least:Int)):=by omega
    rw [show decide (least≤l.length)=false by simp; omega,Bool.false_and,Bool.false_and] at hK
    simp only [lstW,C_hourglassref10_MayWrites,A_,simprocAttr,ne_eq,(U_hourglassref10_MayWrites _).1,hx1']
    exact hK
  have hx1':¬((l.length:Int) < (least:Int)):=by omega
  rw [show decide (least≤l.length)=true by simp; omega,Bool.true_and] at hK
  by_cases hx2:16 < l.length
  · have hx2':((16:Int) < (l.length:Int)):=by omega
    rw [show decide (l.length≤16)=false by simp; omega,Bool.false_and] at hK
    simp only [lstW,C_hourglassref10_MayWrites,A_,simprocAttr,ne_eq,(U_hourglassref10_MayWrites _).1,hx1',hx2']
    exact hK
  have hx2':¬((16:Int) < (l.length:Int)):=by omega
  rw [show decide (l.length≤16)=true by simp; omega,Bool.true_and] at hK
  simp only [lstW,C_hourglassref10_MayWrites,A_,simprocAttr,ne_eq,(U_hourglassref10_MayWrites _).1,hx1',hx2']
  refine loop_rule hC (α:=Nat) (fun a=>l.length - a) (fun a=>[.list .sh 18 (l.map wA),uu,uu,uu,uu,.s (.int .i64 a),uu,uu,uu,uu,uu,uu,uu,uu,uu,uu,uu,uu,uu,uu,uu,uu,uu,uu,uu,uu,uu,uu,uu,uu,uu,uu,uu,uu,uu,uu,uu,uu,uu,uu,uu,uu,uu,uu,uu,uu,uu,uu,uu,uu,uu,uu,uu,uu,uu,uu,uu,uu,uu,uu,uu,uu,uu,uu,uu,uu,uu,uu,uu]) (fun _=>S) (fun _=>H) (fun a=>a≤l.length∧sgood [] l=sgood ((l.take a).map Wr.key) (l.drop a)) 0 ⟨by simp,by simp⟩ rfl (by simp) rfl (fun a _=>by simp [AV.under,AV.under.go]) ?_
  rintro i ⟨hi,hinv⟩ ih
  by_cases h16:i < l.length
  case neg =>
    have hlt:¬((i:Int) < (l.length:Int)):=by omega
    rw [List.drop_of_length_le (by omega)] at hinv
    rw [hinv] at hK
    simp only [A_,simprocAttr,ne_eq,(U_hourglassref10_MayWrites _).1,hlt]
    exact hK
  have hlt:((i:Int) < (l.length:Int)):=by omega
  have hw:IntKind.i64.wrap ((i:Int) + 1)=(i:Int) + 1:=wrap_i64 (by omega) (by omega)
  have htk:(l.take (i + 1)).map Wr.key=(l.take i).map Wr.key ++ [(l[i]).key]:=by rw [List.take_succ_eq_append_getElem h16,List.map_append]; rfl
  rw [List.drop_eq_getElem_cons h16,sgood,←htk] at hinv
  simp only [A_,simprocAttr,ne_eq,(U_hourglassref10_MayWrites _).1,hlt,h16]
  refine h0 _ _ _ _ ?_
  rw [goodRK]
  cases e1:goodK (l[i]).key with
  | false =>
    rw [if_pos e1] at hinv
    rw [hinv] at hK
    simp only [A_,simprocAttr,ne_eq,(U_hourglassref10_MayWrites _).1]
    exact hK
  | true =>
    rw [if_neg (by simp [e1])] at hinv
    by_cases e3:200 < (l[i]).val.length
    · have e3':((200:Int) < ((l[i]).val.length:Int)):=by omega
      have hf:sgood [] l=false:=by rw [hinv]; simp [e3]
      rw [hf] at hK
      simp only [A_,simprocAttr,ne_eq,(U_hourglassref10_MayWrites _).1,h16,e3']
      exact hK
    have e3':¬((200:Int) < ((l[i]).val.length:Int)):=by omega
    rw [if_neg e3] at hinv
    by_cases e4:(l[i]).gone=true∧(l[i]).val≠[]
    · have hf:sgood [] l=false:=by rw [hinv]; simp [e4]
      rw [hf] at hK
      have e5:=e4.2
      simp only [A_,simprocAttr,ne_eq,(U_hourglassref10_MayWrites _).1,h16,e3',drop17_wc,e4.1,e5]
      exact hK
    rw [if_neg e4] at hinv
    have e4':((l[i]).gone=false)∨((l[i]).gone=true∧((l[i]).val=[])=True):=by
      cases hg:(l[i]).gone with
      | false=>exact .inl rfl
      | true=>exact .inr ⟨rfl,eq_true (Classical.byContradiction fun h=>e4 ⟨hg,h⟩)⟩
    rcases e4' with hg | ⟨hg,hv⟩
    all_goals
      first | simp only [A_,simprocAttr,ne_eq,(U_hourglassref10_MayWrites _).1,h16,e3',drop17_wc,hg,hv] | simp only [A_,simprocAttr,ne_eq,(U_hourglassref10_MayWrites _).1,h16,e3',drop17_wc,hg]
      refine loop_rule hC (α:=Nat) (fun a=>i - a) (fun a=>[.list .sh 18 (l.map wA),uu,uu,uu,uu,.s (.int .i64 i),.s (.int .i64 a),uu,uu,uu,uu,uu,uu,uu,uu,uu,uu,uu,uu,uu,uu,uu,uu,uu,uu,uu,uu,uu,uu,uu,uu,uu,uu,uu,uu,uu,uu,uu,uu,uu,uu,uu,uu,uu,uu,uu,uu,uu,uu,uu,uu,uu,uu,uu,uu,uu,uu,uu,uu,uu,uu,uu,uu,uu,uu,uu,uu,uu,uu]) (fun _=>S) (fun _=>H) (fun a=>a≤i∧(l[i]).key∉(l.take a).map Wr.key) 0 ⟨by simp,by simp⟩ rfl (by simp) rfl (fun a _=>by simp [AV.under,AV.under.go]) ?_
      rintro k ⟨hk,hkin⟩ ih2
      by_cases hki:k < i
      · have hlt2:((k:Int) < (i:Int)):=by omega
        have hkl:k < l.length:=by omega
        have hw2:IntKind.i64.wrap ((k:Int) + 1)=(k:Int) + 1:=wrap_i64 (by omega) (by omega)
        by_cases hke:(l[k]).key=(l[i]).key
        · have hm:(l[i]).key∈(l.take i).map Wr.key:=List.mem_map.2 ⟨l[k],List.mem_take_iff_getElem.2 ⟨k,by omega,rfl⟩,hke⟩
          rw [if_pos hm] at hinv
          rw [hinv] at hK
          have hke':=eq_true hke
          simp only [A_,simprocAttr,ne_eq,(U_hourglassref10_MayWrites _).1,h16,hlt2,hkl,hke']
          exact hK
        · have hm:(l[i]).key∉(l.take (k + 1)).map Wr.key:=by
            rw [List.take_succ_eq_append_getElem hkl,List.map_append]
            intro hh
            rcases List.mem_append.1 hh with h | h
            · exact hkin h
            · simp at h; exact hke h.symm
          simp only [A_,simprocAttr,ne_eq,(U_hourglassref10_MayWrites _).1,h16,hlt2,hkl,hke,hw2]
          exact ih2 (k + 1) _ _ _ (by omega) ⟨by omega,hm⟩ rfl (by simp) rfl
      · have hlt2:¬((k:Int) < (i:Int)):=by omega
        have hki':k=i:=by omega
        rw [hki'] at hkin
        rw [if_neg hkin] at hinv
        simp only [A_,simprocAttr,ne_eq,(U_hourglassref10_MayWrites _).1,hlt2,hw]
        exact ih (i + 1) _ _ _ (by omega) ⟨by omega,hinv⟩ rfl (by simp) rfl
theorem ref10_Writes_spec {C:CallW} (hC:LeC C C) (P:Program):∀(a b:List Wr) S H (K:AV→St→Prop),a.length≤9223372036854775807→b.length≤9223372036854775807→K (.bool (decide (a=b))) ⟨S,H⟩→runL C P C_hourglassref10_Writes [lstW a,lstW b] ⟨S,H⟩ K:=by
  intro a b S H K ha hb hK
  by_cases hl:a.length=b.length
  case neg =>
    have hl':¬((a.length:Int)=(b.length:Int)):=by omega
    rw [decide_eq_false (fun e=>hl (by rw [e]))] at hK
    simp only [lstW,C_hourglassref10_Writes,A_,simprocAttr,ne_eq,U_hourglassref10_Writes.1,hl']
    exact hK
  have hl':=eq_true (show ((a.length:Int)=(b.length:Int)) by omega)
  simp only [lstW,C_hourglassref10_Writes,A_,simprocAttr,ne_eq,U_hourglassref10_Writes.1,hl']
  refine loop_rule hC (α:=Nat) (fun i=>a.length - i) (fun i=>[.list .sh 18 (a.map wA),.list .sh 18 (b.map wA),uu,uu,uu,.s (.int .i64 i),uu,uu,uu,uu,uu,uu,uu,uu,uu,uu,uu,uu,uu,uu,uu,uu,uu,uu,uu,uu]) (fun _=>S) (fun _=>H) (fun i=>i≤a.length∧decide (a=b)=decide (a.drop i=b.drop i)) 0 ⟨by simp,by simp⟩ rfl (by simp) rfl (fun a _=>by simp [AV.under,AV.under.go]) ?_
  rintro i ⟨hi,hinv⟩ ih
  by_cases h16:i < a.length
  · have hlt:((i:Int) < (a.length:Int)):=by omega
    have h16':i < b.length:=by omega
    have hw:IntKind.i64.wrap ((i:Int) + 1)=(i:Int) + 1:=wrap_i64 (by omega) (by omega)
    rw [List.drop_eq_getElem_cons h16,List.drop_eq_getElem_cons h16'] at hinv
    by_cases he:a[i]=b[i]
    · have he':=eq_true he
      rw [he] at hinv
      simp only [List.cons.injEq,true_and] at hinv
      simp only [A_,simprocAttr,ne_eq,U_hourglassref10_Writes.1,hlt,h16,h16',he',hw]
      exact ih (i + 1) _ _ _ (by omega) ⟨by omega,hinv⟩ rfl (by simp) rfl
    · simp only [List.cons.injEq,he,false_and,decide_false] at hinv
      rw [hinv] at hK
      simp only [A_,simprocAttr,ne_eq,U_hourglassref10_Writes.1,hlt,h16,h16',he]
      exact hK
  · have hlt:¬((i:Int) < (a.length:Int)):=by omega
    rw [List.drop_of_length_le (by omega),List.drop_of_length_le (by omega),decide_eq_true rfl] at hinv
    rw [hinv] at hK
    simp only [A_,simprocAttr,ne_eq,U_hourglassref10_Writes.1,hlt]
    exact hK
def WritesEqS (C:CallW) (f:FuncId):Prop:=∀(a b:List Wr) S H (K:AV→St→Prop),a.length≤9223372036854775807→b.length≤9223372036854775807→K (.bool (decide (a=b))) ⟨S,H⟩→C (.fn f) [lstW a,lstW b] ⟨S,H⟩ K
end Go.AM
namespace Go.AM
open Go
set_option maxRecDepth 20000
end Go.AM
namespace Go.AM
open Go
set_option maxRecDepth 20000
end Go.AM
namespace Go.AM
open Go
set_option maxRecDepth 20000
end Go.AM
namespace Go.AM
open Go
set_option maxRecDepth 20000
def restLe (a b:Rd):Prop:=∀q,b=some q→∃p,a=some p∧q.length≤p.length
theorem restLe.refl (a:Rd):restLe a a:=fun q h=>⟨q,h,Nat.le_refl _⟩
theorem restLe.trans {a b c:Rd} (h:restLe a b) (h2:restLe b c):restLe a c:=fun q hq=>by
  obtain ⟨p,hp,hl⟩:=h2 q hq
  obtain ⟨p2,hp2,hl2⟩:=h p hp
  exact ⟨p2,hp2,by omega⟩
end Go.AM
namespace Go.AM
open Go
set_option maxRecDepth 20000
end Go.AM
namespace Go.AM
open Go
set_option maxRecDepth 20000
def MayWS (C:CallW) (f:FuncId):Prop:=∀(l:List Wr) (least:Nat) S H (K:AV→St→Prop),l.length≤9223372036854775807→K (.bool (mayW least l)) ⟨S,H⟩→C (.fn f) [lstW l,.s (.int .i64 least)] ⟨S,H⟩ K
end Go.AM
namespace Go.AM
open Go
structure Rec where
  kind:Int
  id:Int
  snap:Stp
  stamp:Stp
  writes:List Wr
  yes:Bool
  parts:List Int
  deriving DecidableEq
end Go.AM
namespace Go.AM
open Go
set_option maxRecDepth 20000
end Go.AM
namespace Go.AM
open Go
set_option maxRecDepth 20000
end Go.AM
namespace Go.AM
open Go
set_option maxRecDepth 20000
end Go.AM
namespace Go.AM
open Go
open AV renaming undef → uu
set_option maxRecDepth 20000
def CmpSS (C:CallW) (f:FuncId):Prop:=∀(a b:Stp),FnS C f [.agg (stc a),.agg (stc b)] (.i (cmpS a b))
def AskS (C:CallW) (g:FuncId) (cp:AV) (p:Wr→Bool) (S:List (List AV)) (H:List HObj):Prop :=
  ∀(w:Wr) (G:List HObj) (K:AV→St→Prop),(∀G',K (.bool (p w)) ⟨S,H ++ G'⟩)→C (.fn g) [.agg (wc w),cp] ⟨S,H ++ G⟩ K
def idxP (p:Wr→Bool):List Wr→Int→Int
  | [],_ => -1
  | w :: l,i=>if p w then i else idxP p l (i + 1)
theorem idxP_any (p:Wr→Bool):∀(l:List Wr) (i:Int),0≤i→decide (0≤idxP p l i)=l.any p
  | [],i,_=>rfl
  | w :: l,i,h=>by
    simp only [idxP,List.any_cons]
    by_cases hp:p w=true
    · simp [hp,h]
    · simpa [hp] using idxP_any p l (i + 1) (by omega)
theorem IndexFunc_spec {C : CallW} (hC : LeC C C) (P : Program) : ∀ (l : List Wr) (g : FuncId) (cp : AV) (p : Wr → Bool) S H (K : AV → St → Prop), l.length ≤ 9223372036854775807 → cp.sh = cp → cp.look = cp → AV.under S.length cp = true → AskS C g cp p S H → ∀ G0, (∀ G, K (.i (idxP p l 0)) ⟨S, H ++ G⟩) →
    runL C P C_slices_IndexFunc_Write [.list .sh 18 (l.map wA),.fn (.func g) [] [cp]] ⟨S,H ++ G0⟩ K:=by
  intro l g cp p S H K hl hc1 hc2 hu hask G0 hK
  simp only [C_slices_IndexFunc_Write,A_,simprocAttr,ne_eq,U_slices_IndexFunc_Write.1]
  refine loop_rule hC (α:=Nat×List HObj) (fun a=>l.length - a.1) (fun a=>[.list .sh 18 (l.map wA),.fn (.func g) [] [cp],uu,uu,uu,uu,uu,.s (.int .i64 l.length),.s (.int .i64 a.1),uu,uu,uu,uu,uu,uu,uu,uu,uu,uu]) (fun _=>S) (fun a=>H ++ a.2) (fun a=>a.1≤l.length∧idxP p l 0=idxP p (l.drop a.1) a.1) (0,G0) ⟨by simp,rfl⟩ rfl (by simp) rfl (fun a _=>by simp [AV.under,AV.under.go,hu]) ?_
  rintro ⟨i,G⟩ ⟨hi,hinv⟩ ih
  dsimp only at hi hinv ih ⊢
  by_cases h16:i < l.length
  · have hlt:((i:Int) < (l.length:Int)):=by omega
    have hw:IntKind.i64.wrap ((i:Int) + 1)=(i:Int) + 1:=wrap_i64 (by omega) (by omega)
    rw [List.drop_eq_getElem_cons h16,idxP] at hinv
    simp only [A_,simprocAttr,ne_eq,U_slices_IndexFunc_Write.1,hlt,h16]
    refine hask _ _ _ fun G' => ?_
    cases hp:p l[i] with
    | true =>
      rw [hp,if_pos rfl] at hinv
      rw [hinv] at hK
      simp only [A_,simprocAttr,ne_eq,U_slices_IndexFunc_Write.1]
      exact hK _
    | false =>
      rw [hp] at hinv
      simp only [A_,simprocAttr,ne_eq,U_slices_IndexFunc_Write.1,hw]
      exact ih (i + 1,G') _ _ _ (by simp; omega) ⟨by simp; omega,hinv⟩ rfl (by simp) rfl
  · have hlt:¬((i:Int) < (l.length:Int)):=by omega
    rw [List.drop_of_length_le (by omega)] at hinv
    rw [hinv] at hK
    simp only [A_,simprocAttr,ne_eq,U_slices_IndexFunc_Write.1,hlt]
    exact hK _
def IdxFS (C : CallW) (f : FuncId) : Prop := ∀ (l : List Wr) (g : FuncId) (cp : AV) (p : Wr → Bool) S H (K : AV → St → Prop), l.length ≤ 9223372036854775807 → cp.sh = cp → cp.look = cp → AV.under S.length cp = true → AskS C g cp p S H → ∀ G0, (∀ G, K (.i (idxP p l 0)) ⟨S, H ++ G⟩) →
    C (.fn f) [.list .sh 18 (l.map wA),.fn (.func g) [] [cp]] ⟨S,H ++ G0⟩ K
theorem ContainsFunc_spec {C : CallW} (P : Program) {c : Nat → FuncId} (h0 : IdxFS C (c 0)) : ∀ (l : List Wr) (g : FuncId) (cp : AV) (p : Wr → Bool) S H (K : AV → St → Prop), l.length ≤ 9223372036854775807 → cp.sh = cp → cp.look = cp → AV.under S.length cp = true → AskS C g cp p S H → ∀ G0, (∀ G, K (.bool (l.any p)) ⟨S, H ++ G⟩) →
    runL C P (C_slices_ContainsFunc_Write c) [.list .sh 18 (l.map wA),.fn (.func g) [] [cp]] ⟨S,H ++ G0⟩ K:=by
  intro l g cp p S H K hl hc1 hc2 hu hask G0 hK
  have hi:=idxP_any p l 0 (by omega)
  simp only [C_slices_ContainsFunc_Write,A_,simprocAttr,ne_eq,(U_slices_ContainsFunc_Write _).1]
  refine h0 l g cp p S H _ hl hc1 hc2 hu hask G0 fun G => ?_
  simp only [A_,simprocAttr,ne_eq,(U_slices_ContainsFunc_Write _).1,hi]
  exact hK _
def ContS (C : CallW) (f : FuncId) : Prop := ∀ (l : List Wr) (g : FuncId) (cp : AV) (p : Wr → Bool) S H (K : AV → St → Prop), l.length ≤ 9223372036854775807 → cp.sh = cp → cp.look = cp → AV.under S.length cp = true → AskS C g cp p S H → ∀ G0, (∀ G, K (.bool (l.any p)) ⟨S, H ++ G⟩) →
    C (.fn f) [.list .sh 18 (l.map wA),.fn (.func g) [] [cp]] ⟨S,H ++ G0⟩ K
end Go.AM
namespace Go.AM
open Go
set_option maxRecDepth 20000
structure Ent where
  id:Int
  snap:Stp
  stamp:Stp
  writes:List Wr
def enc (e:Ent):List AV:=[.s (.int .i64 e.id),.s (.int .i64 e.snap.t),u8 e.snap.n,.s (.int .i64 e.stamp.t),u8 e.stamp.n,.list .sh 18 (e.writes.map wA)]
def mayE (e:Ent):Bool:=decide (1≤e.id) && goodS e.snap && decide (1≤e.writes.length) && decide (e.writes.length≤16) && sgood [] e.writes
def goodE (e:Ent):Bool:=mayE e && goodS e.stamp && decide (0 < cmpS e.stamp e.snap)
theorem store_Many_spec {C:CallW} (P:Program):∀(l:List Wr) S H (K:AV→St→Prop),K (.bool (decide (1≤l.length) && decide (l.length≤16))) ⟨S,H⟩→runL C P C_store_Many [lstW l] ⟨S,H⟩ K:=by
  intro l S H K hK
  by_cases h1:1≤l.length
  · have h1':((1:Int)≤(l.length:Int)):=by omega
    by_cases h2:l.length≤16
    · have h2':((l.length:Int)≤16):=by omega
      rw [decide_eq_true h1,decide_eq_true h2] at hK
      simp only [lstW,C_store_Many,A_,simprocAttr,ne_eq,U_store_Many.1,h1',h2']
      exact hK
    · have h2':¬((l.length:Int)≤16):=by omega
      rw [decide_eq_true h1,decide_eq_false h2] at hK
      simp only [lstW,C_store_Many,A_,simprocAttr,ne_eq,U_store_Many.1,h1',h2']
      exact hK
  · have h1':¬((1:Int)≤(l.length:Int)):=by omega
    rw [decide_eq_false h1,Bool.false_and] at hK
    simp only [lstW,C_store_Many,A_,simprocAttr,ne_eq,U_store_Many.1,h1']
    exact hK
def EntS (g:Ent→Bool) (C:CallW) (f:FuncId):Prop:=∀(e:Ent) S H (K:AV→St→Prop),e.writes.length≤9223372036854775807→(∀G,K (.bool (g e)) ⟨S,H ++ G⟩)→C (.fn f) [.agg (enc e)] ⟨S,H⟩ K
set_option maxHeartbeats 8000000 in
theorem prep_May_spec {C:CallW} (P:Program) {c:Nat→FuncId} (h0:∀s:Stp,FnS C (c 0) [.agg (stc s)] (.bool (goodS s))) (h1:∀l:List Wr,FnS C (c 1) [lstW l] (.bool (decide (1≤l.length) && decide (l.length≤16)))) (h2:GoodWS C (c 2)):∀(e:Ent) S H (K:AV→St→Prop),e.writes.length≤9223372036854775807→(∀G,K (.bool (mayE e)) ⟨S,H ++ G⟩)→runL C P (C_prep_May c) [.agg (enc e)] ⟨S,H⟩ K:=by
  intro e S H K hl hK
  have hK0:=hK []
  rw [List.append_nil] at hK0
  unfold mayE at hK hK0
  have h0':=h0 e.snap
  unfold stc at h0'
  have h1':=h1 e.writes
  have h2':=h2 e.writes
  unfold lstW at h1' h2'
  by_cases e1:1≤e.id
  case neg =>
    simp only [e1,decide_false,Bool.false_and] at hK0
    simp only [C_prep_May,A_,simprocAttr,ne_eq,(U_prep_May _).1,enc,e1]
    exact hK0
  simp only [C_prep_May,A_,simprocAttr,ne_eq,(U_prep_May _).1,enc,e1]
  refine h0' _ _ _ ?_
  cases e2:goodS e.snap with
  | false =>
    simp only [e1,e2,decide_true,Bool.true_and,Bool.false_and] at hK0
    simp only [A_,simprocAttr,ne_eq,(U_prep_May _).1]
    exact hK0
  | true =>
  simp only [A_,simprocAttr,ne_eq,(U_prep_May _).1]
  refine h1' _ _ _ ?_
  cases e3:(decide (1≤e.writes.length) && decide (e.writes.length≤16)) with
  | false =>
    simp only [e1,e2,decide_true,Bool.true_and,e3,Bool.false_and] at hK0
    simp only [A_,simprocAttr,ne_eq,(U_prep_May _).1]
    exact hK0
  | true =>
  simp only [A_,simprocAttr,ne_eq,(U_prep_May _).1]
  refine h2' _ _ _ hl fun G => ?_
  have:=hK G
  simp only [e1,e2,decide_true,Bool.true_and,e3] at this
  simp only [A_,simprocAttr,ne_eq,(U_prep_May _).1]
  exact this
set_option maxHeartbeats 8000000 in
theorem prep_Good_spec {C:CallW} (P:Program) {c:Nat→FuncId} (h0:EntS mayE C (c 0)) (h1:∀s:Stp,FnS C (c 1) [.agg (stc s)] (.bool (goodS s))) (h2:CmpSS C (c 2)):∀(e:Ent) S H (K:AV→St→Prop),e.writes.length≤9223372036854775807→(∀G,K (.bool (goodE e)) ⟨S,H ++ G⟩)→runL C P (C_prep_Good c) [.agg (enc e)] ⟨S,H⟩ K:=by
  intro e S H K hl hK
  have h0':=h0 e
  unfold enc at h0'
  have h1':=h1 e.stamp
  unfold stc at h1'
  have h2':=h2 e.stamp e.snap
  unfold stc at h2'
  unfold goodE at hK
  simp only [C_prep_Good,A_,simprocAttr,ne_eq,(U_prep_Good _).1,enc]
  refine h0' _ _ _ hl fun G => ?_
  have hKG:=hK G
  cases e1:mayE e with
  | false =>
    simp only [e1,Bool.false_and] at hKG
    simp only [A_,simprocAttr,ne_eq,(U_prep_Good _).1]
    exact hKG
  | true =>
  simp only [A_,simprocAttr,ne_eq,(U_prep_Good _).1]
  refine h1' _ _ _ ?_
  cases e2:goodS e.stamp with
  | false =>
    simp only [e1,e2,Bool.and_false,Bool.false_and] at hKG
    simp only [A_,simprocAttr,ne_eq,(U_prep_Good _).1]
    exact hKG
  | true =>
  simp only [A_,simprocAttr,ne_eq,(U_prep_Good _).1]
  refine h2' _ _ _ ?_
  simp only [e1,e2,Bool.and_true,Bool.true_and] at hKG
  by_cases e3:0 < cmpS e.stamp e.snap
  · simp only [e3,decide_true] at hKG
    simp only [A_,simprocAttr,ne_eq,(U_prep_Good _).1,e3]
    exact hKG
  · simp only [e3,decide_false] at hKG
    simp only [A_,simprocAttr,ne_eq,(U_prep_Good _).1,e3]
    exact hKG
set_option maxHeartbeats 8000000 in
theorem ref10_GoodEntry_spec {C:CallW} (P:Program) {c:Nat→FuncId} (h0:∀s:Stp,FnS C (c 0) [.agg (stc s)] (.bool (goodS s))) (h1:CmpSS C (c 1)) (h2:MayWS C (c 2)):∀(e:Ent) S H (K:AV→St→Prop),e.writes.length≤9223372036854775807→K (.bool (goodE e)) ⟨S,H⟩→runL C P (C_hourglassref10_GoodEntry c) [.agg (enc e)] ⟨S,H⟩ K:=by
  intro e S H K hl hK
  have h0a:=h0 e.snap
  have h0b:=h0 e.stamp
  unfold stc at h0a h0b
  have h1':=h1 e.stamp e.snap
  unfold stc at h1'
  have h2':=h2 e.writes 1
  unfold lstW at h2'
  unfold goodE mayE at hK
  by_cases e1:1≤e.id
  case neg =>
    simp only [e1,decide_false,Bool.false_and] at hK
    simp only [C_hourglassref10_GoodEntry,A_,simprocAttr,ne_eq,(U_hourglassref10_GoodEntry _).1,enc,e1]
    exact hK
  simp only [C_hourglassref10_GoodEntry,A_,simprocAttr,ne_eq,(U_hourglassref10_GoodEntry _).1,enc,e1]
  refine h0a _ _ _ ?_
  cases e2:goodS e.snap with
  | false =>
    simp only [e1,e2,decide_true,Bool.true_and,Bool.false_and] at hK
    simp only [A_,simprocAttr,ne_eq,(U_hourglassref10_GoodEntry _).1]
    exact hK
  | true =>
  simp only [A_,simprocAttr,ne_eq,(U_hourglassref10_GoodEntry _).1]
  refine h0b _ _ _ ?_
  cases e3:goodS e.stamp with
  | false =>
    simp only [e3,Bool.and_false,Bool.false_and] at hK
    simp only [A_,simprocAttr,ne_eq,(U_hourglassref10_GoodEntry _).1]
    exact hK
  | true =>
  simp only [A_,simprocAttr,ne_eq,(U_hourglassref10_GoodEntry _).1]
  refine h1' _ _ _ ?_
  by_cases e4:0 < cmpS e.stamp e.snap
  case neg =>
    simp only [e4,decide_false,Bool.and_false] at hK
    simp only [A_,simprocAttr,ne_eq,(U_hourglassref10_GoodEntry _).1,e4]
    exact hK
  simp only [A_,simprocAttr,ne_eq,(U_hourglassref10_GoodEntry _).1,e4]
  refine h2' _ _ _ hl ?_
  simp only [e1,e2,e3,e4,decide_true,Bool.true_and,Bool.and_true] at hK
  unfold mayW
  simp only [A_,simprocAttr,ne_eq,(U_hourglassref10_GoodEntry _).1]
  exact hK
def WkK (K:AV→St→Prop):AV→St→Prop:=fun v s=>∃b,(b=v∨WkL [v.sh] [b])∧K b s
end Go.AM
namespace Go.AM
open Go
set_option maxRecDepth 20000
set_option linter.unusedSectionVars false
structure KeyK {κ:Type} [DecidableEq κ] (kk:KK) (kf:κ→AV):Prop where
  fits:∀a,kk.fits (kf a)=true
  eq:∀a b,AV.beq (kf a) (kf b)=decide (a=b)
theorem keyK_int:KeyK (.one (.int .i64)) iA:=⟨fun a=>rfl,fun a b=>by simp [iA,AV.beq]⟩
theorem keyK_key:KeyK (.leaf lk) kA:=⟨fun a=>by simp only [KK.fits,kA,fits_k],fun a b=>by simp only [kA,AV.beq,beq_kk]⟩
section
variable {κ β:Type} [DecidableEq κ] {kk:KK} {kf:κ→AV} {kp:β→κ} {vf:β→AV}
def RelM (kf:κ→AV) (kp:β→κ) (vf:β→AV) (es:List Entry) (l:List β):Prop:=es.map (fun e=>(e.key,e.val))=l.map fun x=>(kf (kp x),vf x)
structure MapG (kf:κ→AV) (kp:β→κ) (vf:β→AV) (es:List Entry) (c:Nat) (l:List β):Prop where
  rel:RelM kf kp vf es l
  nd:(es.map (·.born)).Nodup
  lt:∀e∈es,e.born < c
def getB (kp:β→κ) (l:List β) (k:κ):Option β:=l.find? fun x=>decide (kp x=k)
theorem find_none (hK:KeyK kk kf):∀{es:List Entry} {l:List β} {k:κ} {i:Nat},RelM kf kp vf es l→(∀x∈l,kp x≠k)→findL kk (kf k) es i=some none
  | [],[],k,i,_,_=>rfl
  | [],x :: l,k,i,h,_=>by cases h
  | e :: es,[],k,i,h,_=>by cases h
  | e :: es,x :: l,k,i,h,hk=>by
    unfold RelM at h
    simp only [List.map_cons,List.cons.injEq,Prod.mk.injEq] at h
    have hq:keyEqL kk (kf k) e.key=some false:=by
      rw [h.1.1]
      simp only [keyEqL,hK.fits,and_self,if_true,hK.eq]
      rw [decide_eq_false fun e=>hk x List.mem_cons_self e.symm]
    rw [findL,hq]
    exact find_none hK h.2 fun y hy=>hk y (List.mem_cons_of_mem _ hy)
theorem find_some (hK:KeyK kk kf):∀{es:List Entry} {l:List β} {k:κ} {x:β} {i:Nat},RelM kf kp vf es l→getB kp l k=some x→∃j e,j < l.length∧l[j]? = some x∧es[j]? = some e∧e.val=vf x∧kp x=k∧(∀m,m < j→∀y,l[m]? = some y→kp y≠k)∧findL kk (kf k) es i=some (some (i + j,e))
  | [],[],k,x,i,_,h2=>by cases h2
  | [],y :: l,k,x,i,h,_=>by cases h
  | e :: es,[],k,x,i,h,_=>by cases h
  | e :: es,y :: l,k,x,i,h,h2=>by
    unfold RelM at h
    simp only [List.map_cons,List.cons.injEq,Prod.mk.injEq] at h
    unfold getB at h2
    rw [List.find?_cons] at h2
    by_cases hy:kp y=k
    · rw [decide_eq_true hy] at h2
      have hxy:y=x:=by simpa using h2
      subst hxy
      have hq:keyEqL kk (kf k) e.key=some true:=by
        rw [h.1.1]
        simp only [keyEqL,hK.fits,and_self,if_true,hK.eq]
        rw [decide_eq_true hy.symm]
      refine ⟨0,e,by simp,rfl,rfl,h.1.2,hy,fun m hm=>by omega,?_⟩
      rw [findL,hq]; rfl
    · rw [decide_eq_false hy] at h2
      have hq:keyEqL kk (kf k) e.key=some false:=by
        rw [h.1.1]
        simp only [keyEqL,hK.fits,and_self,if_true,hK.eq]
        rw [decide_eq_false fun e=>hy e.symm]
      obtain ⟨j,e',q1,q2,q3,q4,q5,q6,q7⟩:=find_some hK (i:=i + 1) h.2 h2
      refine ⟨j + 1,e',by simpa using q1,by simpa using q2,by simpa using q3,q4,q5,fun m hm z hz => ?_,?_⟩
      · cases m with
        | zero => have : y = z := by simpa using hz
                  subst this; exact hy
        | succ m=>exact q6 m (by omega) z (by simpa using hz)
      · rw [findL,hq]
        show findL kk (kf k) es (i + 1)=_
        rw [q7]
        congr 3; omega
theorem getB_none {l:List β} {k:κ} (h:getB kp l k=none):∀x∈l,kp x≠k:=by
  unfold getB at h
  rw [List.find?_eq_none] at h
  exact fun x hx e=>h x hx (decide_eq_true e)
def lookR (vf:β→AV) (z:AV) (ok:Bool):Option β→AV
  | some x=>if ok then .tup [vf x,.bool true] else vf x
  | none=>if ok then .tup [z,.bool false] else z
theorem map_look (hK:KeyK kk kf) {S:List (List AV)} {H:List HObj} {h c:Nat} {es:List Entry} {l:List β} {k:κ} {z:AV} {ok:Bool} (hm:H[h]? = some (.map es c)) (hR:RelM kf kp vf es l):lookupL kk z ok (.map h) (kf k) ⟨S,H⟩=some (lookR vf z ok (getB kp l k)):=by
  have hmo:mapOf ⟨S,H⟩ (.map h)=some (es,c):=by simp [mapOf,hm]
  simp only [lookupL,hK.fits,if_true,hmo]
  cases hg:getB kp l k with
  | none=>rw [find_none hK hR (getB_none hg)]; rfl
  | some x =>
    obtain ⟨j,e,q1,q2,q3,q4,q5,q6,q7⟩:=find_some hK (i:=0) hR hg
    rw [q7]
    simp only [q4,lookR]
theorem map_new (hK:KeyK kk kf) {S:List (List AV)} {H:List HObj} {h c:Nat} {es:List Entry} {l:List β} {k:κ} {v:AV} (hm:H[h]? = some (.map es c)) (hR:RelM kf kp vf es l) (hk:∀x∈l,kp x≠k) (hv:AV.under 0 v=true):updateL kk (.map h) (kf k) v ⟨S,H⟩=some ⟨S,H.set h (.map (es ++ [⟨kf k,v,c⟩]) (c + 1))⟩:=by
  have hmo:mapOf ⟨S,H⟩ (.map h)=some (es,c):=by simp [mapOf,hm]
  simp only [updateL,hK.fits,hv,and_self,if_true,hmo,find_none hK hR hk]
  rfl
theorem MapG.new {es:List Entry} {c:Nat} {l:List β} {x:β} (h:MapG kf kp vf es c l):MapG kf kp vf (es ++ [⟨kf (kp x),vf x,c⟩]) (c + 1) (l ++ [x]):=by
  obtain ⟨h1,h2,h3⟩:=h
  refine ⟨?_,?_,?_⟩
  · unfold RelM at h1 ⊢
    rw [List.map_append,List.map_append,h1]; rfl
  · rw [List.map_append,List.nodup_append]
    refine ⟨h2,by simp,fun a ha b hb => ?_⟩
    simp only [List.map_cons,List.map_nil,List.mem_singleton] at hb
    rw [List.mem_map] at ha
    obtain ⟨e,he,rfl⟩:=ha
    have:=h3 e he
    omega
  · intro e he
    rcases List.mem_append.1 he with he | he
    · have:=h3 e he; omega
    · simp only [List.mem_singleton] at he; subst he; exact Nat.lt_succ_self _
theorem MapG.del (hK:KeyK kk kf) {H:List HObj} {h c:Nat} {es:List Entry} {l:List β} {k:κ} (hm:H[h]? = some (.map es c)) (hG:MapG kf kp vf es c l) (hnd:(l.map kp).Nodup):∃es',(∀S:List (List AV),deleteL kk (.map h) (kf k) ⟨S,H⟩=some ⟨S,H.set h (.map es' c)⟩)∧MapG kf kp vf es' c (l.filter fun x=>decide (kp x≠k)):=by
  have hmo:∀S,mapOf ⟨S,H⟩ (.map h)=some (es,c):=fun S=>by simp [mapOf,hm]
  obtain ⟨hR,h2,h3⟩:=hG
  simp only [deleteL,hK.fits,if_true,hmo]
  cases hg:getB kp l k with
  | none =>
    refine ⟨es,fun S=>by rw [find_none hK hR (getB_none hg)]; rfl,?_,h2,h3⟩
    rw [List.filter_eq_self.2 fun x hx=>decide_eq_true (getB_none hg x hx)]
    exact hR
  | some x =>
    obtain ⟨j,e,q1,q2,q3,q4,q5,q6,q7⟩:=find_some hK (i:=0) hR hg
    refine ⟨es.eraseIdx j,fun S=>by rw [q7,Nat.zero_add]; rfl,?_,?_,?_⟩
    · have hf:l.filter (fun x=>decide (kp x≠k))=l.eraseIdx j:=by
        rw [List.eraseIdx_eq_take_drop_succ]
        have hl:l=l.take j ++ l[j] :: l.drop (j + 1):=by rw [List.getElem_cons_drop,List.take_append_drop]
        have hx:l[j]=x:=by rw [List.getElem?_eq_getElem q1] at q2; exact Option.some.inj q2
        conv=>lhs; rw [hl]
        rw [List.filter_append,List.filter_cons,hx,if_neg (by simp [q5])]
        congr 1
        · refine List.filter_eq_self.2 fun y hy=>decide_eq_true ?_
          obtain ⟨m,hm,rfl⟩:=List.mem_iff_getElem.1 hy
          rw [List.length_take] at hm
          rw [List.getElem_take]
          exact q6 m (by omega) _ (List.getElem?_eq_getElem (by omega))
        · refine List.filter_eq_self.2 fun y hy=>decide_eq_true ?_
          obtain ⟨m,hm,rfl⟩:=List.mem_iff_getElem.1 hy
          rw [List.length_drop] at hm
          rw [List.getElem_drop]
          intro hy2
          have h5:=List.pairwise_iff_getElem.1 hnd j (j + 1 + m) (by simpa using q1) (by simp; omega) (by omega)
          rw [List.getElem_map,List.getElem_map,hx,q5,hy2] at h5
          exact h5 rfl
      rw [hf]
      unfold RelM at hR ⊢
      rw [List.eraseIdx_eq_take_drop_succ,List.eraseIdx_eq_take_drop_succ,List.map_append,List.map_append,List.map_take,List.map_take,List.map_drop,List.map_drop,hR]
    · exact h2.sublist ((List.eraseIdx_sublist es j).map _)
    · exact fun e he=>h3 e ((List.eraseIdx_sublist es j).mem he)
end
end Go.AM
namespace Go.AM
open Go
set_option maxRecDepth 20000
def entA (e:Ent):AV := .agg (enc e)
def zEnt:Ent:=⟨0,⟨0,0⟩,⟨0,0⟩,[]⟩
def zEA:AV := .agg [.s (.int .i64 0),.s (.int .i64 0),.s (.int .u8 0),.s (.int .i64 0),.s (.int .u8 0),.s .nilS]
def holV (p:Key×Int):AV:=iA p.2
structure TabH (H:List HObj) (h h1 h2:Nat) (tb:List Ent) (hl:List (Key×Int)):Prop where
  n1:h≠h1
  n2:h≠h2
  n12:h1≠h2
  at0:H[h]? = some (.cells [.map h1,.map h2])
  at1:∃es c,H[h1]? = some (.map es c)∧MapG iA Ent.id entA es c tb
  at2:∃es c,H[h2]? = some (.map es c)∧MapG kA Prod.fst holV es c hl
def Ext (H H':List HObj) (h1 h2:Nat):Prop:=H.length≤H'.length∧∀i,i < H.length→i≠h1→i≠h2→H'[i]? = H[i]?
theorem Ext.refl {H:List HObj} {h1 h2:Nat}:Ext H H h1 h2:=⟨Nat.le_refl _,fun _ _ _ _=>rfl⟩
theorem Ext.trans {H H' H'':List HObj} {h1 h2:Nat} (a:Ext H H' h1 h2) (b:Ext H' H'' h1 h2):Ext H H'' h1 h2 :=
  ⟨Nat.le_trans a.1 b.1,fun i hi e1 e2=>(b.2 i (Nat.lt_of_lt_of_le hi a.1) e1 e2).trans (a.2 i hi e1 e2)⟩
theorem Ext.app {H G:List HObj} {h1 h2:Nat}:Ext H (H ++ G) h1 h2:=⟨by simp,fun i hi _ _=>List.getElem?_append_left hi⟩
theorem Ext.set1 {H:List HObj} {o:HObj} {h1 h2:Nat}:Ext H (H.set h1 o) h1 h2:=⟨by simp,fun i _ e1 _=>List.getElem?_set_ne fun e=>e1 e.symm⟩
theorem Ext.set2 {H:List HObj} {o:HObj} {h1 h2:Nat}:Ext H (H.set h2 o) h1 h2:=⟨by simp,fun i _ _ e2=>List.getElem?_set_ne fun e=>e2 e.symm⟩
theorem hlt {H:List HObj} {h:Nat} {o:HObj} (e:H[h]? = some o):h < H.length:=(List.getElem?_eq_some_iff.1 e).1
theorem happ {H G:List HObj} {h:Nat} {o:HObj} (e:H[h]? = some o):(H ++ G)[h]? = some o:=by rw [List.getElem?_append_left (hlt e)]; exact e
theorem hset {H:List HObj} {h j:Nat} {o o':HObj} (hne:j≠h) (e:H[h]? = some o):(H.set j o')[h]? = some o:=by rw [List.getElem?_set_ne hne]; exact e
theorem hself {H:List HObj} {h:Nat} {o o':HObj} (e:H[h]? = some o):(H.set h o')[h]? = some o':=by rw [List.getElem?_set_self (hlt e)]
theorem TabH.app {H G:List HObj} {h h1 h2:Nat} {tb:List Ent} {hl:List (Key×Int)} (t:TabH H h h1 h2 tb hl):TabH (H ++ G) h h1 h2 tb hl:=by
  obtain ⟨n1,n2,n12,a0,⟨e1,c1,a1,g1⟩,⟨e2,c2,a2,g2⟩⟩:=t
  exact ⟨n1,n2,n12,happ a0,⟨e1,c1,happ a1,g1⟩,⟨e2,c2,happ a2,g2⟩⟩
theorem TabH.set1 {H:List HObj} {h h1 h2 c:Nat} {es:List Entry} {tb tb':List Ent} {hl:List (Key×Int)} (t:TabH H h h1 h2 tb hl) (g:MapG iA Ent.id entA es c tb'):TabH (H.set h1 (.map es c)) h h1 h2 tb' hl:=by
  obtain ⟨n1,n2,n12,a0,⟨e1,c1,a1,g1⟩,⟨e2,c2,a2,g2⟩⟩:=t
  exact ⟨n1,n2,n12,hset n1.symm a0,⟨es,c,hself a1,g⟩,⟨e2,c2,hset n12 a2,g2⟩⟩
theorem TabH.set2 {H:List HObj} {h h1 h2 c:Nat} {es:List Entry} {tb:List Ent} {hl hl':List (Key×Int)} (t:TabH H h h1 h2 tb hl) (g:MapG kA Prod.fst holV es c hl'):TabH (H.set h2 (.map es c)) h h1 h2 tb hl':=by
  obtain ⟨n1,n2,n12,a0,⟨e1,c1,a1,g1⟩,⟨e2,c2,a2,g2⟩⟩:=t
  exact ⟨n1,n2,n12,hset n2.symm a0,⟨e1,c1,hset n12.symm a1,g1⟩,⟨es,c,hself a2,g⟩⟩
def entOf (tb:List Ent) (id:Int):Ent×Bool:=match getB Ent.id tb id with
  | some x=>(x,true)
  | none=>(zEnt,false)
def holdOf (hl:List (Key×Int)) (k:Key):Int×Bool:=match getB Prod.fst hl k with
  | some p=>(p.2,true)
  | none=>(0,false)
theorem TabH.look1 {S:List (List AV)} {H:List HObj} {h h1 h2:Nat} {tb:List Ent} {hl:List (Key×Int)} (t:TabH H h h1 h2 tb hl) (id:Int) (z:AV) (ok:Bool):lookupL (.one (.int .i64)) z ok (.map h1) (.s (.int .i64 id)) ⟨S,H⟩=some (lookR entA z ok (getB Ent.id tb id)):=by
  obtain ⟨es,c,a,g⟩:=t.at1
  exact map_look keyK_int (k:=id) (z:=z) (ok:=ok) a g.rel
theorem TabH.look2 {S:List (List AV)} {H:List HObj} {h h1 h2:Nat} {tb:List Ent} {hl:List (Key×Int)} (t:TabH H h h1 h2 tb hl) (k:Key) (z:AV) (ok:Bool):lookupL (.leaf lk) z ok (.map h2) (.agg (bs k.b)) ⟨S,H⟩=some (lookR holV z ok (getB Prod.fst hl k)):=by
  obtain ⟨es,c,a,g⟩:=t.at2
  exact map_look keyK_key (k:=k) (z:=z) (ok:=ok) a g.rel
def NewTS (C:CallW) (f:FuncId):Prop:=∀S H (K:AV→St→Prop),K (.ptr (.heap (H.length + 2)) 0) ⟨S,H ++ [.map [] 0,.map [] 0,.cells [.map H.length,.map (H.length + 1)]]⟩→C (.fn f) [] ⟨S,H⟩ K
theorem newTab {H:List HObj}:TabH (H ++ [.map [] 0,.map [] 0,.cells [.map H.length,.map (H.length + 1)]]) (H.length + 2) H.length (H.length + 1) [] [] :=
  ⟨by omega,by omega,by omega,by simp,⟨[],0,by simp,rfl,.nil,fun e h=>by cases h⟩,⟨[],0,by simp,rfl,.nil,fun e h=>by cases h⟩⟩
theorem prep_New_spec {C:CallW} (P:Program):∀S H (K:AV→St→Prop),K (.ptr (.heap (H.length + 2)) 0) ⟨S,H ++ [.map [] 0,.map [] 0,.cells [.map H.length,.map (H.length + 1)]]⟩→runL C P C_prep_New [] ⟨S,H⟩ K:=by
  intro S H K hK
  simp only [C_prep_New,A_,simprocAttr,ne_eq,U_prep_New.1]
  exact hK
def FullS (C:CallW) (f:FuncId):Prop:=∀(h h1 h2:Nat) (tb:List Ent) (hl:List (Key×Int)) S H (K:AV→St→Prop),TabH H h h1 h2 tb hl→K (.bool (decide (100≤tb.length))) ⟨S,H⟩→C (.fn f) [.ptr (.heap h) 0] ⟨S,H⟩ K
theorem prep_Full_spec {C:CallW} (P:Program):∀(h h1 h2:Nat) (tb:List Ent) (hl:List (Key×Int)) S H (K:AV→St→Prop),TabH H h h1 h2 tb hl→K (.bool (decide (100≤tb.length))) ⟨S,H⟩→runL C P C_prep_Table_Full [.ptr (.heap h) 0] ⟨S,H⟩ K:=by
  intro h h1 h2 tb hl S H K t hK
  obtain ⟨es,c,a,g⟩:=t.at1
  have h0:=t.at0
  have hlen:es.length=tb.length:=by have:=congrArg List.length g.rel; simpa [RelM] using this
  have hll:lenL .map (.map h1) ⟨S,H⟩=some tb.length:=by simp [lenL,mapOf,a,hlen]
  have e:decide (100≤tb.length)=decide ((100:Int)≤(tb.length:Int)):=by congr 1; exact propext (by omega)
  rw [e] at hK
  simp only [C_prep_Table_Full,A_,simprocAttr,ne_eq,U_prep_Table_Full.1,h0,hll]
  exact hK
def HolderS (C:CallW) (f:FuncId):Prop:=∀(h h1 h2:Nat) (tb:List Ent) (hl:List (Key×Int)) (k:Key) S H (K:AV→St→Prop),TabH H h h1 h2 tb hl→K (.tup [.s (.int .i64 (holdOf hl k).1),.bool (holdOf hl k).2]) ⟨S,H⟩→C (.fn f) [.ptr (.heap h) 0,.agg (bs k.b)] ⟨S,H⟩ K
theorem prep_Holder_spec {C:CallW} (P:Program):∀(h h1 h2:Nat) (tb:List Ent) (hl:List (Key×Int)) (k:Key) S H (K:AV→St→Prop),TabH H h h1 h2 tb hl→K (.tup [.s (.int .i64 (holdOf hl k).1),.bool (holdOf hl k).2]) ⟨S,H⟩→runL C P C_prep_Table_Holder [.ptr (.heap h) 0,.agg (bs k.b)] ⟨S,H⟩ K:=by
  intro h h1 h2 tb hl k S H K t hK
  have h0:=t.at0
  have hl2:=fun S'=>t.look2 (S:=S') k (.s (.int .i64 0)) true
  unfold holdOf at hK
  cases hg:getB Prod.fst hl k with
  | none =>
    rw [hg] at hK
    simp only [hg,lookR,if_true] at hl2
    simp only [C_prep_Table_Holder,A_,simprocAttr,ne_eq,U_prep_Table_Holder.1,h0,hl2]
    exact hK
  | some p =>
    rw [hg] at hK
    simp only [hg,lookR,holV,iA,if_true] at hl2
    simp only [C_prep_Table_Holder,A_,simprocAttr,ne_eq,U_prep_Table_Holder.1,h0,hl2]
    exact hK
def cloneW (l:List Wr) (v:AV):Prop:=v = .list .uniq 18 (l.map wA)∨(l=[]∧(v = .nilS∨v = .list .full 18 []))
theorem cloneW_wk {l:List Wr} {v:AV} (h:cloneW l v):WkL [v.sh] [lstW l]:=by
  rcases h with rfl | ⟨rfl,rfl | rfl⟩
  · exact .same .nil
  · exact .nilS (by omega) .nil
  · exact .full .nil
def CloneWS (C:CallW) (f:FuncId):Prop:=∀(l:List Wr) S H (K:AV→St→Prop),l.length≤1000000→K (lstW l) ⟨S,H⟩→C (.fn f) [lstW l] ⟨S,H⟩ K
set_option maxHeartbeats 1000000 in
theorem slices_CloneW_spec {C:CallW} (hC:LeC C C) (P:Program):∀(l:List Wr) S H (K:AV→St→Prop),l.length≤1000000→(∀v,cloneW l v→K v ⟨S,H⟩)→runL C P C_slices_Clone_Write [lstW l] ⟨S,H⟩ K:=by
  intro l S H K hl hK
  have he:∀(e:ET) (σ:St),e.c=18→elemsL e (.list .sh 18 (l.map wA)) σ=some (l.map wA):=fun e σ h=>by simp [elemsL,h]
  cases l with
  | nil =>
    simp only [lstW,C_slices_Clone_Write,A_,simprocAttr,ne_eq,U_slices_Clone_Write.1]
    rintro (_ | _)
    · simp only [A_,simprocAttr,ne_eq,U_slices_Clone_Write.1,bslL,appendL,srcL,appItems,elemsL,List.isEmpty_nil,Option.bind_some]
      exact hK _ (.inr ⟨rfl,.inr rfl⟩)
    · simp only [A_,simprocAttr,ne_eq,U_slices_Clone_Write.1]
      exact hK _ (.inr ⟨rfl,.inl rfl⟩)
  | cons k l =>
    have hlow:AV.under.go 0 (l.map wA)=true:=wA_low
    simp only [List.length_cons] at hl
    have hb:(l.length + 1) * 40≤2 ^ 48:=by omega
    simp only [lstW,C_slices_Clone_Write,A_,simprocAttr,ne_eq,U_slices_Clone_Write.1,refEq,bslL,appendL,srcL,appItems,elemsL,List.isEmpty_nil,List.isEmpty_cons,Option.bind_some,hb,Option.map_some,and_self]
    exact hK _ (.inl rfl)
def CopS (C:CallW) (f:FuncId):Prop:=∀(e:Ent) S H (K:AV→St→Prop),e.writes.length≤1000000→K (entA e) ⟨S,H⟩→C (.fn f) [entA e] ⟨S,H⟩ K
theorem prep_copied_spec {C:CallW} (P:Program) {c:Nat→FuncId} (h0:CloneWS C (c 0)):∀(e:Ent) S H (K:AV→St→Prop),e.writes.length≤1000000→K (entA e) ⟨S,H⟩→runL C P (C_prep_copied c) [entA e] ⟨S,H⟩ K:=by
  intro e S H K he hK
  simp only [entA,enc,C_prep_copied,A_,simprocAttr,ne_eq,(U_prep_copied _).1]
  refine h0 e.writes _ _ _ he ?_
  simp only [lstW,C_prep_copied,A_,simprocAttr,ne_eq,(U_prep_copied _).1]
  exact hK
end Go.AM
namespace Go.AM
open Go
set_option maxRecDepth 20000
def HasS (C:CallW) (f:FuncId):Prop:=∀(h h1 h2:Nat) (tb:List Ent) (hl:List (Key×Int)) (id:Int) S H (K:AV→St→Prop),TabH H h h1 h2 tb hl→(∀x∈tb,x.writes.length≤1000000)→K (.tup [entA (entOf tb id).1,.bool (entOf tb id).2]) ⟨S,H⟩→C (.fn f) [.ptr (.heap h) 0,.s (.int .i64 id)] ⟨S,H⟩ K
theorem getB_mem {β κ:Type} [DecidableEq κ] {kp:β→κ} {l:List β} {k:κ} {x:β} (h:getB kp l k=some x):x∈l∧kp x=k:=⟨List.mem_of_find?_eq_some h,by have:=List.find?_some h; exact of_decide_eq_true this⟩
theorem zE_wk:WkF [zEA] [entA zEnt] := .wk (show WkL [zEA] [entA zEnt] from .agg (.same (.same (.same (.same (.same (.nilS (by omega) .nil)))))) (by intro c hc; simp only [enc,zEnt,List.mem_cons,List.not_mem_nil,or_false] at hc; rcases hc with rfl | rfl | rfl | rfl | rfl | rfl <;> rfl) .nil) .nil
theorem prep_Has_spec {C:CallW} (hW:WkC C) (P:Program) {c:Nat→FuncId} (h0:CopS C (c 0)):∀(h h1 h2:Nat) (tb:List Ent) (hl:List (Key×Int)) (id:Int) S H (K:AV→St→Prop),TabH H h h1 h2 tb hl→(∀x∈tb,x.writes.length≤1000000)→K (.tup [entA (entOf tb id).1,.bool (entOf tb id).2]) ⟨S,H⟩→runL C P (C_prep_Table_Has c) [.ptr (.heap h) 0,.s (.int .i64 id)] ⟨S,H⟩ K:=by
  intro h h1 h2 tb hl id S H K t hw hK
  have a0:=t.at0
  have l1:=fun S'=>t.look1 (S:=S') id zEA true
  unfold entOf at hK
  cases hg:getB Ent.id tb id with
  | none =>
    rw [hg] at hK
    simp only [hg,lookR,if_true,zEA] at l1
    simp only [C_prep_Table_Has,A_,simprocAttr,ne_eq,(U_prep_Table_Has _).1,a0,l1]
    refine hW _ _ [entA zEnt] _ _ zE_wk (h0 zEnt _ _ _ (by simp [zEnt]) ?_)
    simp only [entA,enc,zEnt,A_,simprocAttr,ne_eq,(U_prep_Table_Has _).1]
    exact hK
  | some x =>
    rw [hg] at hK
    simp only [hg,lookR,if_true,entA,enc,zEA] at l1
    simp only [C_prep_Table_Has,A_,simprocAttr,ne_eq,(U_prep_Table_Has _).1,a0,l1]
    refine h0 x _ _ _ (hw x (getB_mem hg).1) ?_
    simp only [entA,enc,A_,simprocAttr,ne_eq,(U_prep_Table_Has _).1]
    exact hK
def blocksT (tb:List Ent) (hl:List (Key×Int)) (k:Key) (s:Stp):Int×Bool:=match getB Prod.fst hl k with
  | some p=>if cmpS (entOf tb p.2).1.stamp s≤0 then (p.2,true) else (0,false)
  | none=>(0,false)
def BlocksS (C:CallW) (f:FuncId):Prop:=∀(h h1 h2:Nat) (tb:List Ent) (hl:List (Key×Int)) (k:Key) (s:Stp) S H (K:AV→St→Prop),TabH H h h1 h2 tb hl→K (.tup [.s (.int .i64 (blocksT tb hl k s).1),.bool (blocksT tb hl k s).2]) ⟨S,H⟩→C (.fn f) [.ptr (.heap h) 0,.agg (bs k.b),.agg (stc s)] ⟨S,H⟩ K
theorem prep_Blocks_spec {C:CallW} (P:Program) {c:Nat→FuncId} (h0:CmpSS C (c 0)):∀(h h1 h2:Nat) (tb:List Ent) (hl:List (Key×Int)) (k:Key) (s:Stp) S H (K:AV→St→Prop),TabH H h h1 h2 tb hl→K (.tup [.s (.int .i64 (blocksT tb hl k s).1),.bool (blocksT tb hl k s).2]) ⟨S,H⟩→runL C P (C_prep_Table_Blocks c) [.ptr (.heap h) 0,.agg (bs k.b),.agg (stc s)] ⟨S,H⟩ K:=by
  intro h h1 h2 tb hl k s S H K t hK
  have a0:=t.at0
  have l2:=fun S'=>t.look2 (S:=S') k (.s (.int .i64 0)) true
  cases hg:getB Prod.fst hl k with
  | none =>
    have hb:blocksT tb hl k s=(0,false):=by unfold blocksT; rw [hg]
    rw [hb] at hK
    simp only [hg,lookR,if_true] at l2
    simp only [C_prep_Table_Blocks,A_,simprocAttr,ne_eq,(U_prep_Table_Blocks _).1,a0,l2]
    exact hK
  | some p =>
    simp only [hg,lookR,holV,iA,if_true] at l2
    have l1:=fun S'=>t.look1 (S:=S') p.2 zEA false
    have key:∀x:Stp,(entOf tb p.2).1.stamp=x→(cmpS x s≤0→K (.tup [.s (.int .i64 p.2),.bool true]) ⟨S,H⟩)∧(¬cmpS x s≤0→K (.tup [.s (.int .i64 0),.bool false]) ⟨S,H⟩):=by
      intro x hx
      unfold blocksT at hK
      rw [hg] at hK
      dsimp only at hK
      rw [hx] at hK
      exact ⟨fun q=>by rw [if_pos q] at hK; exact hK,fun q=>by rw [if_neg q] at hK; exact hK⟩
    cases hg2:getB Ent.id tb p.2 with
    | none =>
      obtain ⟨k1,k2⟩:=key ⟨0,0⟩ (by unfold entOf; rw [hg2]; rfl)
      simp only [hg2,lookR,if_false,zEA,Bool.false_eq_true] at l1
      simp only [stc,C_prep_Table_Blocks,A_,simprocAttr,ne_eq,(U_prep_Table_Blocks _).1,a0,l1,l2]
      refine h0 ⟨0,0⟩ s _ _ _ ?_
      by_cases hx:0 < cmpS ⟨0,0⟩ s
      · simp only [C_prep_Table_Blocks,A_,simprocAttr,ne_eq,(U_prep_Table_Blocks _).1,hx]
        exact k2 (by omega)
      · simp only [C_prep_Table_Blocks,A_,simprocAttr,ne_eq,(U_prep_Table_Blocks _).1,hx]
        exact k1 (by omega)
    | some x =>
      obtain ⟨k1,k2⟩:=key x.stamp (by unfold entOf; rw [hg2])
      simp only [hg2,lookR,if_false,entA,enc,zEA,Bool.false_eq_true] at l1
      simp only [stc,C_prep_Table_Blocks,A_,simprocAttr,ne_eq,(U_prep_Table_Blocks _).1,a0,l1,l2]
      refine h0 x.stamp s _ _ _ ?_
      by_cases hx:0 < cmpS x.stamp s
      · simp only [C_prep_Table_Blocks,A_,simprocAttr,ne_eq,(U_prep_Table_Blocks _).1,hx]
        exact k2 (by omega)
      · simp only [C_prep_Table_Blocks,A_,simprocAttr,ne_eq,(U_prep_Table_Blocks _).1,hx]
        exact k1 (by omega)
end Go.AM
namespace Go.AM
open Go
open AV renaming undef → uu
set_option maxRecDepth 20000
def heldT (hl:List (Key×Int)) (ws:List Wr):Bool:=ws.any fun w=>(holdOf hl w.key).2
def Held1S (C:CallW) (f:FuncId):Prop:=∀(w:Wr) (r h h1 h2:Nat) (tb:List Ent) (hl:List (Key×Int)) S H (K:AV→St→Prop),S[r]? = some [.ptr (.heap h) 0]→TabH H h h1 h2 tb hl→K (.bool (holdOf hl w.key).2) ⟨S,H⟩→C (.fn f) [.agg (wc w),.ptr (.stk r) 0] ⟨S,H⟩ K
theorem prep_Held1_spec {C:CallW} (P:Program):∀(w:Wr) (r h h1 h2:Nat) (tb:List Ent) (hl:List (Key×Int)) S H (K:AV→St→Prop),S[r]? = some [.ptr (.heap h) 0]→TabH H h h1 h2 tb hl→K (.bool (holdOf hl w.key).2) ⟨S,H⟩→runL C P C_prep_Table_Held_1 [.agg (wc w),.ptr (.stk r) 0] ⟨S,H⟩ K:=by
  intro w r h h1 h2 tb hl S H K hr t hK
  have hr1:(S ++ [wc w])[r]? = some [.ptr (.heap h) 0]:=by rw [List.getElem?_append_left (List.getElem?_eq_some_iff.1 hr).1]; exact hr
  have hrd:load1L false (.ptr (.stk r) 0) ⟨S ++ [wc w],H⟩=some (.ptr (.heap h) 0,⟨S ++ [wc w],H⟩):=by
    simp only [load1L,boxOf_stk,hr1,Option.bind_some]; rfl
  have a0:=t.at0
  have l2:=fun S'=>t.look2 (S:=S') w.key (.s (.int .i64 0)) true
  cases hg:getB Prod.fst hl w.key with
  | none =>
    have hb:holdOf hl w.key=(0,false):=by unfold holdOf; rw [hg]
    rw [hb] at hK
    simp only [hg,lookR,if_true] at l2
    simp only [C_prep_Table_Held_1,A_,simprocAttr,ne_eq,U_prep_Table_Held_1.1,a0,l2,hrd]
    exact hK
  | some p =>
    have hb:holdOf hl w.key=(p.2,true):=by unfold holdOf; rw [hg]
    rw [hb] at hK
    simp only [hg,lookR,holV,iA,if_true] at l2
    simp only [C_prep_Table_Held_1,A_,simprocAttr,ne_eq,U_prep_Table_Held_1.1,a0,l2,hrd]
    exact hK
def HeldS (C:CallW) (f:FuncId):Prop:=∀(ws:List Wr) (h h1 h2:Nat) (tb:List Ent) (hl:List (Key×Int)) S H (K:AV→St→Prop),ws.length≤1000000→TabH H h h1 h2 tb hl→(∀G,K (.bool (heldT hl ws)) ⟨S,H ++ G⟩)→C (.fn f) [.ptr (.heap h) 0,lstW ws] ⟨S,H⟩ K
theorem prep_Held_spec {C:CallW} (P:Program) {c:Nat→FuncId} (h0:Held1S C (c 0)) (h1:ContS C (c 1)):∀(ws:List Wr) (h h1 h2:Nat) (tb:List Ent) (hl:List (Key×Int)) S H (K:AV→St→Prop),ws.length≤1000000→TabH H h h1 h2 tb hl→(∀G,K (.bool (heldT hl ws)) ⟨S,H ++ G⟩)→runL C P (C_prep_Table_Held c) [.ptr (.heap h) 0,lstW ws] ⟨S,H⟩ K:=by
  intro ws h j1 j2 tb hl S H K hw t hK
  simp only [lstW,C_prep_Table_Held,A_,simprocAttr,ne_eq,(U_prep_Table_Held _).1]
  rw [show H=H ++ [] by simp]
  refine h1 ws _ _ (fun w=>(holdOf hl w.key).2) _ _ _ (by omega) rfl rfl (by simp [AV.under]) (fun w G K hK => ?_) [] fun G => ?_
  · exact h0 w _ h j1 j2 tb hl _ _ _ (by simp) t.app (hK G)
  · simp only [C_prep_Table_Held,A_,simprocAttr,ne_eq,(U_prep_Table_Held _).1]
    exact hK _
def addT (tb:List Ent) (hl:List (Key×Int)) (e:Ent):Int×List Ent×List (Key×Int) :=
  if goodE e=false then (1,tb,hl) else if (entOf tb e.id).2 then (5,tb,hl) else if heldT hl e.writes then (9,tb,hl) else if 100≤tb.length then (6,tb,hl) else (0,tb ++ [e],hl ++ e.writes.map fun w=>(w.key,e.id))
def AddS (C:CallW) (f:FuncId):Prop:=∀(h h1 h2:Nat) (tb:List Ent) (hl:List (Key×Int)) (e:Ent) S H (K:AV→St→Prop),e.writes.length≤1000000→TabH H h h1 h2 tb hl→(∀H',Ext H H' h1 h2→TabH H' h h1 h2 (addT tb hl e).2.1 (addT tb hl e).2.2→K (.i (addT tb hl e).1) ⟨S,H'⟩)→C (.fn f) [.ptr (.heap h) 0,entA e] ⟨S,H⟩ K
theorem sgood_split:∀(l:List Wr) (seen:List Key),sgood seen l=true→(l.map (·.key)).Nodup∧∀w∈l,w.key∉seen
  | [],seen,_=>⟨.nil,fun w h=>by cases h⟩
  | w :: l,seen,h=>by
    unfold sgood at h
    split at h
    · cases h
    split at h
    · cases h
    rename_i hns
    split at h
    · cases h
    split at h
    · cases h
    obtain ⟨q1,q2⟩:=sgood_split l _ h
    refine ⟨?_,fun x hx => ?_⟩
    · rw [List.map_cons,List.nodup_cons]
      refine ⟨fun hm => ?_,q1⟩
      rw [List.mem_map] at hm
      obtain ⟨y,hy,he⟩:=hm
      exact q2 y hy (by rw [he]; simp)
    · rcases List.mem_cons.1 hx with rfl | hx
      · exact hns
      · exact fun hm=>q2 x hx (List.mem_append_left _ hm)
theorem hsetid {H:List HObj} {h:Nat} {o:HObj} (e:H[h]? = some o):H.set h o=H:=by
  refine List.ext_getElem? fun i => ?_
  by_cases hi:h=i
  · subst hi; rw [List.getElem?_set_self (hlt e),e]
  · rw [List.getElem?_set_ne hi]
theorem held_none {hl:List (Key×Int)} {ws:List Wr} (h:heldT hl ws=false):∀w∈ws,∀p∈hl,p.1≠w.key:=by
  intro w hw
  unfold heldT at h
  rw [List.any_eq_false] at h
  have h1:=h w hw
  unfold holdOf at h1
  cases hg:getB Prod.fst hl w.key with
  | none=>exact getB_none hg
  | some p=>rw [hg] at h1; exact absurd rfl h1
theorem good_nodup {e:Ent} (h:goodE e=true):(e.writes.map (·.key)).Nodup:=by
  unfold goodE mayE at h
  simp only [Bool.and_eq_true] at h
  exact (sgood_split _ _ h.1.1.2).1
set_option maxHeartbeats 8000000 in
theorem prep_Add_spec {C:CallW} (hC:LeC C C) (P:Program) {c:Nat→FuncId} (h0:EntS goodE C (c 0)) (h1:HeldS C (c 1)) (h2:FullS C (c 2)) (h3:CopS C (c 3)):∀(h j1 j2:Nat) (tb:List Ent) (hl:List (Key×Int)) (e:Ent) S H (K:AV→St→Prop),e.writes.length≤1000000→TabH H h j1 j2 tb hl→(∀H',Ext H H' j1 j2→TabH H' h j1 j2 (addT tb hl e).2.1 (addT tb hl e).2.2→K (.i (addT tb hl e).1) ⟨S,H'⟩)→runL C P (C_prep_Table_Add c) [.ptr (.heap h) 0,entA e] ⟨S,H⟩ K:=by
  intro h j1 j2 tb hl e S H K hw t hK
  unfold addT at hK
  simp only [entA,enc,C_prep_Table_Add,A_,simprocAttr,ne_eq,(U_prep_Table_Add _).1]
  refine h0 e _ _ _ (by omega) fun G => ?_
  have t1:=t.app (G:=G)
  have x1:Ext H (H ++ G) j1 j2 := .app
  generalize H ++ G=H1 at t1 x1 ⊢
  cases hgood:goodE e with
  | false =>
    rw [hgood,if_pos rfl] at hK
    simp only [C_prep_Table_Add,A_,simprocAttr,ne_eq,(U_prep_Table_Add _).1]
    exact hK H1 x1 t1
  | true =>
  rw [hgood,if_neg (by simp)] at hK
  have a0:=t1.at0
  have l1:=fun S'=>t1.look1 (S:=S') e.id zEA true
  cases hg:getB Ent.id tb e.id with
  | some x =>
    have he:entOf tb e.id=(x,true):=by unfold entOf; rw [hg]
    rw [he,if_pos rfl] at hK
    simp only [hg,lookR,if_true,entA,enc,zEA] at l1
    simp only [C_prep_Table_Add,A_,simprocAttr,ne_eq,(U_prep_Table_Add _).1,CHK_,Nat.reduceBEq,a0,l1]
    exact hK H1 x1 t1
  | none =>
  have he:entOf tb e.id=(zEnt,false):=by unfold entOf; rw [hg]
  rw [he,if_neg (by simp)] at hK
  simp only [hg,lookR,if_true,zEA] at l1
  simp only [C_prep_Table_Add,A_,simprocAttr,ne_eq,(U_prep_Table_Add _).1,CHK_,Nat.reduceBEq,a0,l1]
  refine h1 e.writes h j1 j2 tb hl _ _ _ hw t1 fun G2 => ?_
  have t2:=t1.app (G:=G2)
  have x2:Ext H (H1 ++ G2) j1 j2:=x1.trans .app
  generalize H1 ++ G2=H2 at t2 x2 ⊢
  clear a0 l1
  cases hheld:heldT hl e.writes with
  | true =>
    rw [hheld,if_pos rfl] at hK
    simp only [C_prep_Table_Add,A_,simprocAttr,ne_eq,(U_prep_Table_Add _).1]
    exact hK H2 x2 t2
  | false =>
  rw [hheld,if_neg (by simp)] at hK
  simp only [C_prep_Table_Add,A_,simprocAttr,ne_eq,(U_prep_Table_Add _).1]
  refine h2 h j1 j2 tb hl _ _ _ t2 ?_
  by_cases hf:100≤tb.length
  · rw [if_pos hf] at hK
    rw [decide_eq_true hf]
    simp only [C_prep_Table_Add,A_,simprocAttr,ne_eq,(U_prep_Table_Add _).1]
    exact hK H2 x2 t2
  rw [if_neg hf] at hK
  rw [decide_eq_false hf]
  have a0:=t2.at0
  simp only [C_prep_Table_Add,A_,simprocAttr,ne_eq,(U_prep_Table_Add _).1,CHK_,Nat.reduceBEq,a0]
  refine h3 e _ _ _ hw ?_
  obtain ⟨es1,c1,b1,g1⟩:=t2.at1
  have hu:∀S',updateL (.one (.int .i64)) (.map j1) (.s (.int .i64 e.id)) (entA e) ⟨S',H2⟩=some ⟨S',H2.set j1 (.map (es1 ++ [⟨iA e.id,entA e,c1⟩]) (c1 + 1))⟩:=fun S'=>map_new keyK_int (k:=e.id) (v:=entA e) b1 g1.rel (getB_none hg) rfl
  have t3:=t2.set1 (g1.new (x:=e))
  have x3:Ext H (H2.set j1 (.map (es1 ++ [⟨iA e.id,entA e,c1⟩]) (c1 + 1))) j1 j2:=x2.trans .set1
  generalize H2.set j1 (.map (es1 ++ [⟨iA e.id,entA e,c1⟩]) (c1 + 1))=H3 at t3 x3 hu
  simp only [entA,enc] at hu
  simp only [entA,enc,C_prep_Table_Add,A_,simprocAttr,ne_eq,(U_prep_Table_Add _).1,CHK_,Nat.reduceBEq,a0,hu]
  obtain ⟨es2,c2,b2,g2⟩:=t3.at2
  refine loop_rule hC (α:=Nat×List Entry×Nat) (fun a=>e.writes.length - a.1) (fun a=>[.ptr (.heap h) 0,uu,uu,.ptr (.stk S.length) 0,uu,uu,uu,uu,uu,uu,uu,uu,uu,uu,uu,uu,uu,uu,uu,uu,uu,uu,uu,uu,uu,uu,uu,uu,uu,uu,uu,uu,uu,uu,uu,uu,uu,uu,uu,uu,.list .sh 18 (e.writes.map wA),.s (.int .i64 e.writes.length),.s (.int .i64 (a.1:Nat)),uu,uu,uu,uu,uu,uu,uu,uu,uu,uu,uu,uu]) (fun _=>S ++ [[.s (.int .i64 e.id),.s (.int .i64 e.snap.t),u8 e.snap.n,.s (.int .i64 e.stamp.t),u8 e.stamp.n,.list .sh 18 (e.writes.map wA)],[.s (.int .i64 0),.s (.int .i64 0),.s (.int .u8 0),.s (.int .i64 0),.s (.int .u8 0),.s .nilS]]) (fun a=>H3.set j2 (.map a.2.1 a.2.2)) (fun a=>a.1≤e.writes.length∧MapG kA Prod.fst holV a.2.1 a.2.2 (hl ++ (e.writes.take a.1).map fun w=>(w.key,e.id))) (0,es2,c2) ⟨by simp,by simpa using g2⟩ (by simp [keep,zm]) (by rw [app_take_add]; rfl) (hsetid b2).symm (fun a _=>by simp [AV.under,AV.under.go]) ?_
  rintro ⟨i,es,cc⟩ ⟨hi,hG⟩ ih
  dsimp only at hi hG ih ⊢
  have t4:=t3.set2 hG
  have a4:=t4.at0
  by_cases h16:i < e.writes.length
  · have hlt:((i:Int) < (e.writes.length:Int)):=by omega
    have hwi:=wrap_succ (i:=i) (by omega)
    have htk:e.writes.take (i + 1)=e.writes.take i ++ [e.writes[i]]:=List.take_succ_eq_append_getElem h16
    have hnew:∀x∈hl ++ (e.writes.take i).map (fun w=>(w.key,e.id)),x.1≠(e.writes[i]).key:=by
      intro x hx
      rcases List.mem_append.1 hx with hx | hx
      · exact held_none hheld _ (List.getElem_mem h16) x hx
      · rw [List.mem_map] at hx
        obtain ⟨y,hy,rfl⟩:=hx
        obtain ⟨m,hm,rfl⟩:=List.mem_iff_getElem.1 hy
        rw [List.length_take] at hm
        rw [List.getElem_take]
        have:=List.pairwise_iff_getElem.1 (good_nodup hgood) m i (by simp; omega) (by simpa using h16) (by omega)
        rw [List.getElem_map,List.getElem_map] at this
        exact this
    have hu2:∀S',updateL (.leaf lk) (.map j2) (.agg (bs (e.writes[i]).key.b)) (.s (.int .i64 e.id)) ⟨S',H3.set j2 (.map es cc)⟩=some ⟨S',H3.set j2 (.map (es ++ [⟨kA (e.writes[i]).key,iA e.id,cc⟩]) (cc + 1))⟩:=fun S'=>by
      have:=map_new keyK_key (S:=S') (k:=(e.writes[i]).key) (v:=iA e.id) (hself b2 (o' := .map es cc)) hG.rel hnew rfl
      rw [List.set_set] at this
      exact this
    have hG2:=hG.new (x:=((e.writes[i]).key,e.id))
    simp only [C_prep_Table_Add,A_,simprocAttr,ne_eq,(U_prep_Table_Add _).1,WR_,CHK_,Nat.reduceBEq,hlt,h16,a4,hu2,hwi]
    refine ih (i + 1,es ++ [⟨kA (e.writes[i]).key,iA e.id,cc⟩],cc + 1) _ _ _ (by dsimp only; omega) ⟨by dsimp only; omega,?_⟩ (by simp [keep,zm]) (by rw [app_take_add]; rfl) rfl
    dsimp only
    rw [htk,List.map_append,←List.append_assoc]
    exact hG2
  · have hlt:¬((i:Int) < (e.writes.length:Int)):=by omega
    rw [List.take_of_length_le (by omega)] at t4
    simp only [C_prep_Table_Add,A_,simprocAttr,ne_eq,(U_prep_Table_Add _).1,hlt]
    exact hK _ (x3.trans .set2) t4
end Go.AM
namespace Go.AM
open Go
open AV renaming undef → uu
set_option maxRecDepth 20000
def delK (hl:List (Key×Int)) (ws:List Wr):List (Key×Int):=hl.filter fun p=>decide (p.1∉ws.map (·.key))
def dropE (tb:List Ent) (id:Int):List Ent:=tb.filter fun x=>decide (x.id≠id)
def DropS (C:CallW) (f:FuncId):Prop:=∀(h h1 h2:Nat) (tb:List Ent) (hl:List (Key×Int)) (id:Int) S H (K:AV→St→Prop),TabH H h h1 h2 tb hl→(tb.map Ent.id).Nodup→(hl.map Prod.fst).Nodup→(∀x∈tb,x.writes.length≤1000000)→(∀H',Ext H H' h1 h2→TabH H' h h1 h2 (dropE tb id) (delK hl (entOf tb id).1.writes)→K (.tup [entA (entOf tb id).1,.bool (entOf tb id).2]) ⟨S,H'⟩)→C (.fn f) [.ptr (.heap h) 0,.s (.int .i64 id)] ⟨S,H⟩ K
theorem delK_snoc {hl:List (Key×Int)} {ws:List Wr} {w:Wr}:delK hl (ws ++ [w])=(delK hl ws).filter fun p=>decide (p.1≠w.key):=by
  unfold delK
  rw [List.filter_filter]
  congr 1
  funext p
  simp only [List.map_append,List.map_cons,List.map_nil,List.mem_append,List.mem_singleton,not_or]
  by_cases h1:p.1∈ws.map (·.key) <;> by_cases h2:p.1=w.key <;> simp [h1,h2]
theorem delK_nil {hl:List (Key×Int)}:delK hl []=hl:=by simp [delK]
theorem zE_wkL:WkL [(AV.tup [zEA,.bool false]).sh] [.tup [entA zEnt,.bool false]] := .tup (.agg (.same (.same (.same (.same (.same (.nilS (by omega) .nil)))))) (by intro c hc; simp only [enc,zEnt,List.mem_cons,List.not_mem_nil,or_false] at hc; rcases hc with rfl | rfl | rfl | rfl | rfl | rfl <;> rfl) (.same .nil)) .nil
set_option maxHeartbeats 8000000 in
theorem prep_Drop_spec {C:CallW} (hC:LeC C C) (P:Program):∀(h j1 j2:Nat) (tb:List Ent) (hl:List (Key×Int)) (id:Int) S H (K:AV→St→Prop),TabH H h j1 j2 tb hl→(tb.map Ent.id).Nodup→(hl.map Prod.fst).Nodup→(∀x∈tb,x.writes.length≤1000000)→(∀H',Ext H H' j1 j2→TabH H' h j1 j2 (dropE tb id) (delK hl (entOf tb id).1.writes)→K (.tup [entA (entOf tb id).1,.bool (entOf tb id).2]) ⟨S,H'⟩)→runL C P C_prep_Table_Drop [.ptr (.heap h) 0,.s (.int .i64 id)] ⟨S,H⟩ (WkK K):=by
  intro h j1 j2 tb hl id S H K t hn1 hn2 hw hK
  have a0:=t.at0
  have l1:=fun S'=>t.look1 (S:=S') id zEA true
  obtain ⟨es1,c1,b1,g1⟩:=t.at1
  obtain ⟨es2,c2,b2,g2⟩:=t.at2
  cases hg:getB Ent.id tb id with
  | none =>
    have he:entOf tb id=(zEnt,false):=by unfold entOf; rw [hg]
    rw [he] at hK
    obtain ⟨es',hd,hG'⟩:=g1.del keyK_int (k:=id) b1 hn1
    simp only [iA] at hd
    simp only [hg,lookR,if_true,zEA] at l1
    simp only [C_prep_Table_Drop,A_,simprocAttr,ne_eq,U_prep_Table_Drop.1,a0,l1]
    refine loop_rule hC (α:=Unit) (fun _=>0) (fun _=>[.ptr (.heap h) 0,.s (.int .i64 id),uu,uu,.ptr (.stk S.length) 0,.undef,.ptr (.stk (S.length + 1)) 0,.bool false,uu,uu,uu,uu,uu,uu,uu,uu,uu,uu,uu,uu,.s .nilS,.s (.int .i64 0),.s (.int .i64 0),uu,uu,uu,uu,uu,uu,uu,uu,uu,uu,uu,uu,uu,uu,uu,uu,uu]) (fun _=>S ++ [[.s (.int .i64 0),.s (.int .i64 0),.s (.int .u8 0),.s (.int .i64 0),.s (.int .u8 0),.s .nilS],[.s (.int .i64 0),.s (.int .i64 0),.s (.int .u8 0),.s (.int .i64 0),.s (.int .u8 0),.s .nilS]]) (fun _=>H) (fun _=>True) () trivial (by simp [keep,zm]) (by rw [app_take_add]; rfl) rfl (fun a _=>by simp [AV.under,AV.under.go]) ?_
    rintro _ _ ih
    simp only [C_prep_Table_Drop,A_,simprocAttr,ne_eq,U_prep_Table_Drop.1,a0,hd]
    refine ⟨_,.inr zE_wkL,hK _ .set1 ?_⟩
    have:=t.set1 hG'
    rwa [show delK hl zEnt.writes=hl from delK_nil]
  | some x =>
    have he:entOf tb id=(x,true):=by unfold entOf; rw [hg]
    rw [he] at hK
    simp only [hg,lookR,if_true,entA,enc,zEA] at l1
    simp only [C_prep_Table_Drop,A_,simprocAttr,ne_eq,U_prep_Table_Drop.1,a0,l1]
    refine loop_rule hC (α:=Nat×List Entry) (fun a=>x.writes.length - a.1) (fun a=>[.ptr (.heap h) 0,.s (.int .i64 id),uu,uu,.ptr (.stk S.length) 0,.undef,.ptr (.stk (S.length + 1)) 0,.bool true,uu,uu,uu,uu,uu,uu,uu,uu,uu,uu,uu,uu,.list .sh 18 (x.writes.map wA),.s (.int .i64 x.writes.length),.s (.int .i64 (a.1:Nat)),uu,uu,uu,uu,uu,uu,uu,uu,uu,uu,uu,uu,uu,uu,uu,uu,uu]) (fun _=>S ++ [[.s (.int .i64 0),.s (.int .i64 0),.s (.int .u8 0),.s (.int .i64 0),.s (.int .u8 0),.s .nilS],[.s (.int .i64 x.id),.s (.int .i64 x.snap.t),u8 x.snap.n,.s (.int .i64 x.stamp.t),u8 x.stamp.n,.list .sh 18 (x.writes.map wA)]]) (fun a=>H.set j2 (.map a.2 c2)) (fun a=>a.1≤x.writes.length∧MapG kA Prod.fst holV a.2 c2 (delK hl (x.writes.take a.1))) (0,es2) ⟨by simp,by rw [List.take_zero,delK_nil]; exact g2⟩ (by simp [keep,zm]) (by rw [app_take_add]; rfl) (hsetid b2).symm (fun a _=>by simp [AV.under,AV.under.go]) ?_
    rintro ⟨i,es⟩ ⟨hi,hG⟩ ih
    dsimp only at hi hG ih ⊢
    have t4:=t.set2 hG
    have a4:=t4.at0
    by_cases h16:i < x.writes.length
    · have hlt:((i:Int) < (x.writes.length:Int)):=by omega
      have hwi:=wrap_succ (i:=i) (by have:=hw x (getB_mem hg).1; omega)
      have htk:x.writes.take (i + 1)=x.writes.take i ++ [x.writes[i]]:=List.take_succ_eq_append_getElem h16
      have hnd:((delK hl (x.writes.take i)).map Prod.fst).Nodup:=hn2.sublist (List.Sublist.map _ List.filter_sublist)
      obtain ⟨es',hd,hG'⟩:=hG.del keyK_key (k:=(x.writes[i]).key) (hself b2 (o' := .map es c2)) hnd
      simp only [kA,List.set_set] at hd
      simp only [C_prep_Table_Drop,A_,simprocAttr,ne_eq,U_prep_Table_Drop.1,WR_,CHK_,Nat.reduceBEq,hlt,h16,a4,hd,hwi]
      refine ih (i + 1,es') _ _ _ (by dsimp only; omega) ⟨by dsimp only; omega,?_⟩ (by simp [keep,zm]) (by rw [app_take_add]; rfl) rfl
      dsimp only
      rw [htk,delK_snoc]
      exact hG'
    · have hlt:¬((i:Int) < (x.writes.length:Int)):=by omega
      rw [List.take_of_length_le (by omega)] at t4
      obtain ⟨es1',c1',b1',g1'⟩:=t4.at1
      obtain ⟨es',hd,hG'⟩:=g1'.del keyK_int (k:=id) b1' hn1
      simp only [iA] at hd
      have t5:=t4.set1 hG'
      simp only [C_prep_Table_Drop,A_,simprocAttr,ne_eq,U_prep_Table_Drop.1,hlt,a4,hd]
      exact ⟨_,.inl rfl,hK _ (Ext.set2.trans .set1) t5⟩
end Go.AM
namespace Go.AM
open Go
set_option maxRecDepth 20000
section
variable {C:CallW} {P:Program} {rd:Bool}
theorem opS_rng {d x l is fr S H K h es c} (hx:seL fr x = .map h) (hm:H[h]? = some (.map es c)):opS C P rd d (.rng x) l is fr ⟨S,H⟩ K=runS C P rd l is (putA d (.ptr (.heap H.length) 0) fr) ⟨S,H ++ [.iter ⟨some h,c,[],c⟩]⟩ K:=by
  have hmo:mapOf ⟨S,H⟩ (.map h)=some (es,c):=by simp [mapOf,hm]
  unfold opS
  rw [show mayb (.rng x) fr=false from rfl]
  simp only [mb]
  unfold doL
  simp only [settledL,settleL,hx,hmo]
theorem opS_nxt {d x l is fr S H K n h es c} {it:IterA} (hx:seL fr x = .ptr (.heap n) 0) (hi:H[n]? = some (.iter it)) (hp:it.map=some h) (hm:H[h]? = some (.map es c)):opS C P rd d (.nxt x) l is fr ⟨S,H⟩ K=((it.seen=[]∨es=[]∨∃e∈es,e.born < it.stepped)∧((∀e∈es,e.born∈it.seen∨it.since≤e.born)→runS C P rd l is (putA d (.tup [.bool false]) fr) ⟨S,H⟩ K)∧∀e∈es,e.born∉it.seen→runS C P rd l is (putA d (.tup [.bool true,e.key,e.val]) fr) ⟨S,H.set n (.iter { it with seen:=it.seen ++ [e.born],stepped:=c })⟩ K):=by
  have hmo:mapOf ⟨S,H⟩ (.map h)=some (es,c):=by simp [mapOf,hm]
  have hio:iterOf ⟨S,H⟩ (.ptr (.heap n) 0)=some (n,it):=by simp [iterOf,hi]
  unfold opS
  rw [show mayb (.nxt x) fr=false from rfl]
  simp only [mb]
  unfold doL
  simp only [settledL,settleL,hx,hio,hp,hmo]
  rfl
theorem opS_ent {d x l is fr S H K n h es c b} {e:Entry} {it:IterA} (hx:seL fr x = .ptr (.heap n) 0) (hi:H[n]? = some (.iter it)) (hp:it.map=some h) (hm:H[h]? = some (.map es c)) (hb:it.seen.getLast? = some b) (hc:c=it.stepped) (hf:es.find? (fun e=>e.born == b)=some e):opS C P rd d (.ent x) l is fr ⟨S,H⟩ K=runS C P rd l is (putA d (.tup [e.key,e.val]) fr) ⟨S,H⟩ K:=by
  have hmo:mapOf ⟨S,H⟩ (.map h)=some (es,c):=by simp [mapOf,hm]
  have hio:iterOf ⟨S,H⟩ (.ptr (.heap n) 0)=some (n,it):=by simp [iterOf,hi]
  unfold opS
  rw [show mayb (.ent x) fr=false from rfl]
  simp only [mb]
  unfold doL
  simp only [settledL,settleL,hx,hio,hp,hb,hmo,hf]
  simp [hc]
end
theorem born_find {es:List Entry} (hnd:(es.map (·.born)).Nodup) {e:Entry} (he:e∈es):es.find? (fun x=>x.born == e.born)=some e:=by
  induction es with
  | nil=>cases he
  | cons y es ih =>
    rw [List.map_cons,List.nodup_cons] at hnd
    rw [List.find?_cons]
    rcases List.mem_cons.1 he with rfl | he
    · simp
    · have:(y.born == e.born)=false:=by
        cases hq:(y.born == e.born) with
        | false=>rfl
        | true =>
          have hq:y.born=e.born:=by simpa using hq
          exact absurd (List.mem_map.2 ⟨e,he,hq.symm⟩) hnd.1
      rw [this]
      exact ih hnd.2 he
end Go.AM
namespace Go.AM
open Go
open AV renaming undef → uu
set_option maxRecDepth 20000
def KeysS (C:CallW) (f g:FuncId):Prop:=∀(hm:Nat) S H (K:AV→St→Prop),K (.fn (.func g) [] [.ptr (.heap H.length) 0]) ⟨S,H ++ [.cells [.map hm]]⟩→C (.fn f) [.map hm] ⟨S,H⟩ K
theorem maps_Keys_spec {C:CallW} (P:Program) {c:Nat→FuncId}:∀(hm:Nat) S H (K:AV→St→Prop),K (.fn (.func (c 0)) [] [.ptr (.heap H.length) 0]) ⟨S,H ++ [.cells [.map hm]]⟩→runL C P (C_maps_Keys_Entry c) [.map hm] ⟨S,H⟩ K:=by
  intro hm S H K hK
  simp only [C_maps_Keys_Entry,A_,simprocAttr,ne_eq]
  exact hK
def KeysItS (C:CallW) (g:FuncId):Prop:=∀(G:List Int→List HObj) (N h bx hm c:Nat) (es:List Entry) (x:Entry→Int) (S:List (List AV)) (K:AV→St→Prop),(∀acc,(G acc).length=N)→(∀acc,(G acc)[bx]? = some (.cells [.map hm]))→(∀acc,(G acc)[hm]? = some (.map es c))→(es.map (·.born)).Nodup→(∀e∈es,e.born < c)→(∀e∈es,e.key=iA (x e)) →
  (∀acc v it S' (K':AV→St→Prop),acc.length < es.length→K' (.bool true) ⟨S',G (acc ++ [v]) ++ [it]⟩→C (.yield h) [.s (.int .i64 v)] ⟨S',G acc ++ [it]⟩ K')→(∀acc it,acc.Perm (es.map x)→K (.tup []) ⟨S,G acc ++ [it]⟩)→C (.fn g) [.yield h,.ptr (.heap bx) 0] ⟨S,G []⟩ K
set_option maxHeartbeats 4000000 in
theorem maps_Keys1_spec {C:CallW} (hC:LeC C C) (P:Program):∀(G:List Int→List HObj) (N h bx hm c:Nat) (es:List Entry) (x:Entry→Int) (S:List (List AV)) (K:AV→St→Prop),(∀acc,(G acc).length=N)→(∀acc,(G acc)[bx]? = some (.cells [.map hm]))→(∀acc,(G acc)[hm]? = some (.map es c))→(es.map (·.born)).Nodup→(∀e∈es,e.born < c)→(∀e∈es,e.key=iA (x e)) →
  (∀acc v it S' (K':AV→St→Prop),acc.length < es.length→K' (.bool true) ⟨S',G (acc ++ [v]) ++ [it]⟩→C (.yield h) [.s (.int .i64 v)] ⟨S',G acc ++ [it]⟩ K')→(∀acc it,acc.Perm (es.map x)→K (.tup []) ⟨S,G acc ++ [it]⟩)→runL C P C_maps_Keys_Entry_1 [.yield h,.ptr (.heap bx) 0] ⟨S,G []⟩ K:=by
  intro G N h bx hm c es x S K hN hbx hmp hnd hlt hkey hy hK
  have b0:=hbx []
  simp only [C_maps_Keys_Entry_1,A_,simprocAttr,ne_eq,U_maps_Keys_Entry_1.1,b0]
  rw [opS_rng rfl (hmp [])]
  simp only [C_maps_Keys_Entry_1,A_,simprocAttr,ne_eq,U_maps_Keys_Entry_1.1,hN]
  refine loop_rule hC (α:=List Entry) (fun vs=>es.length - vs.length) (fun vs=>[.yield h,uu,uu,uu,uu,.ptr (.heap N) 0,uu,uu,uu,uu,uu,uu,uu,uu]) (fun _=>S) (fun vs=>G (vs.map x) ++ [.iter ⟨some hm,c,vs.map (·.born),c⟩]) (fun vs=>(vs.map (·.born)).Nodup∧∀e∈vs,e∈es) [] ⟨.nil,fun e h=>by cases h⟩ (by simp [keep,zm]) (by rw [List.take_of_length_le (Nat.le_refl _)]) rfl (fun a _=>by simp [AV.under,AV.under.go]) ?_
  rintro vs ⟨hvn,hvs⟩ ih
  have hit:(G (vs.map x) ++ [.iter ⟨some hm,c,vs.map (·.born),c⟩])[N]? = some (.iter ⟨some hm,c,vs.map (·.born),c⟩):=by rw [←hN (vs.map x)]; simp
  have hmm:∀o,(G (vs.map x) ++ [o])[hm]? = some (.map es c):=fun o=>happ (hmp _)
  simp only [C_maps_Keys_Entry_1,A_,simprocAttr,ne_eq,U_maps_Keys_Entry_1.1]
  rw [opS_nxt rfl hit rfl (hmm _)]
  refine ⟨?_,fun hall => ?_,fun e he hns => ?_⟩
  · cases vs with
    | nil=>exact .inl rfl
    | cons v vs=>exact .inr (.inr ⟨v,hvs v List.mem_cons_self,hlt v (hvs v List.mem_cons_self)⟩)
  · have hp:vs.Perm es:=by
      refine (List.perm_ext_iff_of_nodup ?_ ?_).2 fun e=>⟨hvs e,fun he => ?_⟩
      · exact List.Pairwise.of_map (·.born) (fun a b h e=>h (by rw [e])) hvn
      · exact List.Pairwise.of_map (·.born) (fun a b h e=>h (by rw [e])) hnd
      · rcases hall e he with h1 | h1
        · rw [List.mem_map] at h1
          obtain ⟨v,hv,hb⟩:=h1
          have q1:=born_find hnd (hvs v hv)
          have q2:=born_find hnd he
          rw [hb,q2] at q1
          rw [Option.some.inj q1]; exact hv
        · have:=hlt e he
          exact absurd h1 (by dsimp only; omega)
    simp only [C_maps_Keys_Entry_1,A_,simprocAttr,ne_eq,U_maps_Keys_Entry_1.1]
    exact hK _ _ (hp.map x)
  · have hk:=hkey e he
    have hset:∀o o':HObj,(G (vs.map x) ++ [o]).set N o'=G (vs.map x) ++ [o']:=fun o o'=>by rw [←hN (vs.map x)]; simp
    have hit2:(G (vs.map x) ++ [.iter ⟨some hm,c,vs.map (·.born) ++ [e.born],c⟩])[N]? = some (.iter ⟨some hm,c,vs.map (·.born) ++ [e.born],c⟩):=by rw [←hN (vs.map x)]; simp
    dsimp only
    rw [hset]
    have hll:vs.length < es.length:=by
      have hb:((vs ++ [e]).map (·.born)).Nodup:=by
        rw [List.map_append,List.nodup_append]
        exact ⟨hvn,by simp,fun a ha b hb=>by
          have:b=e.born:=by simpa using hb
          subst this
          exact fun e2=>hns (e2▸ha)⟩
      have hnd2:(vs ++ [e]).Nodup:=List.Pairwise.of_map (·.born) (fun a b h e=>h (by rw [e])) hb
      have h1:(vs ++ [e]).length≤es.length:=hnd2.length_le_of_subset fun z hz=>by
        rcases List.mem_append.1 hz with hz | hz
        · exact hvs z hz
        · have:z=e:=by simpa using hz
          rw [this]; exact he
      simp at h1; omega
    simp only [C_maps_Keys_Entry_1,A_,simprocAttr,ne_eq,U_maps_Keys_Entry_1.1]
    rw [opS_ent rfl hit2 rfl (hmm _) (b:=e.born) (by simp) rfl (born_find hnd he),hk]
    simp only [iA,C_maps_Keys_Entry_1,A_,simprocAttr,ne_eq,U_maps_Keys_Entry_1.1]
    refine hy _ (x e) _ _ _ (by simpa using hll) ?_
    simp only [C_maps_Keys_Entry_1,A_,simprocAttr,ne_eq,U_maps_Keys_Entry_1.1]
    refine ih (vs ++ [e]) _ _ _ (by simp; omega) ⟨?_,fun z hz => ?_⟩ (by simp [keep,zm]) (by rw [List.take_of_length_le (Nat.le_refl _)]) (by simp)
    · rw [List.map_append,List.nodup_append]
      exact ⟨hvn,by simp,fun a ha b hb=>by
        have:b=e.born:=by simpa using hb
        subst this
        exact fun e2=>hns (e2▸ha)⟩
    · rcases List.mem_append.1 hz with hz | hz
      · exact hvs z hz
      · have:z=e:=by simpa using hz
        rw [this]; exact he
end Go.AM
namespace Go.AM
open Go
open AV renaming undef → uu
set_option maxRecDepth 20000
def slZ (l:List Int):AV:=if l=[] then .s .nilS else .list .uniq 1 (l.map iA)
theorem slZ_under {n:Nat} {l:List Int}:AV.under n (slZ l)=true:=by unfold slZ; split <;> rfl
theorem slZ_nil:slZ [] = .s .nilS:=rfl
theorem slZ_snoc (l:List Int) (v:Int):slZ (l ++ [v]) = .list .uniq 1 ((l ++ [v]).map iA):=if_neg (by simp)
theorem app_slZ {e:ET} {l:List Int} {v:Int} {σ:St} (h1:e.c=1) (h2:e.bytes=8) (hl:l.length≤1000000):appendL e false (slZ l) (.list .full 1 [.s (.int .i64 v)]) σ=some (.list .uniq 1 ((l ++ [v]).map iA),σ):=by
  have h:=app_slG (e:=e) (es:=l.map iA) (a:=iA v) (σ:=σ) rfl (by rw [List.length_map,h2]; omega)
  rw [h1] at h
  have e1:slG 1 (l.map iA)=slZ l:=by unfold slG slZ; by_cases e:l=[] <;> simp [e]
  rw [e1] at h
  rw [show (AV.s (.int .i64 v))=iA v from rfl,h]
  unfold slG
  rw [if_neg (by simp),List.map_append]
  rfl
theorem load_kept {S:List (List AV)} {H G:List HObj} {l:List Int}:load1L true (.ptr (.heap H.length) 0) ⟨S,H ++ .cells [slZ l] :: G⟩=some (slZ l,⟨S,H ++ .cells [(slZ l).left] :: G⟩):=by
  have hb:boxOf ⟨S,H ++ .cells [slZ l] :: G⟩ (.heap H.length)=some [slZ l]:=by simp [boxOf]
  simp only [load1L,hb,Option.bind_some]
  simp [splice,setBox]
theorem store_kept {S:List (List AV)} {H G:List HObj} {a:AV} {es:List AV}:storeUL (.ptr (.heap H.length) 0) (.list .uniq 1 es) ⟨S,H ++ .cells [a] :: G⟩=some ⟨S,H ++ .cells [.list .uniq 1 es] :: G⟩:=by
  have hb:boxOf ⟨S,H ++ .cells [a] :: G⟩ (.heap H.length)=some [a]:=by simp [boxOf]
  simp [storeUL,AV.fit,AV.kept,AV.isCell,hb,writeCells,mayHold,AV.under.go,AV.under,splice,setBox]
structure MapI (H:List HObj) (bx hm c:Nat) (es:List Entry) (x:Entry→Int):Prop where
  box:H[bx]? = some (.cells [.map hm])
  map:H[hm]? = some (.map es c)
  nd:(es.map (·.born)).Nodup
  lt:∀e∈es,e.born < c
  key:∀e∈es,e.key=iA (x e)
  len:es.length≤1000000
def AppSeqS (C:CallW) (f g:FuncId):Prop:=∀(bx hm c:Nat) (es:List Entry) (x:Entry→Int) S H (K:AV→St→Prop),MapI H bx hm c es x→(∀acc G,acc.Perm (es.map x)→K (slZ acc) ⟨S,H ++ G⟩)→C (.fn f) [.s .nilS,.fn (.func g) [] [.ptr (.heap bx) 0]] ⟨S,H⟩ K
set_option maxHeartbeats 4000000 in
theorem AppendSeq_spec {C:CallW} (hC:LeC C C) (P:Program) {c:Nat→FuncId} {as1 bd1:Code} {g:FuncId} (h1:KeysItS C g) (hB:hasBody P g=true) (hR:RoundOK C P (c 0) as1 bd1 (C_slices_AppendSeq_int64_a0).code (C_slices_AppendSeq_int64_b0).code):∀(bx hm cc:Nat) (es:List Entry) (x:Entry→Int) S H (K:AV→St→Prop),MapI H bx hm cc es x→(∀acc G,acc.Perm (es.map x)→K (slZ acc) ⟨S,H ++ G⟩)→runL C P (C_slices_AppendSeq_int64 c as1 bd1) [.s .nilS,.fn (.func g) [] [.ptr (.heap bx) 0]] ⟨S,H⟩ K:=by
  intro bx hm cc es x S H K hM hK
  have st:=fun {S:List (List AV)} {a:AV} {es':List AV} {G:List HObj}=>store_kept (S:=S) (H:=H) (G:=G) (a:=a) (es:=es')
  simp only [C_slices_AppendSeq_int64,A_,simprocAttr,ne_eq,(U_slices_AppendSeq_int64 _ _ _).1,hB]
  refine h1 (fun acc=>H ++ [.cells [slZ acc],.loop ⟨c 0,[.s .nilS,.fn (.func g) [] [.ptr (.heap bx) 0],.ptr (.heap H.length) 0,.undef,.s .nilS,.undef,.fn (.func g) [] [.ptr (.heap bx) 0],uu,uu,uu,uu,uu,uu],[7],as1,bd1,true,none⟩]) (H.length + 2) (H.length + 1) bx hm cc es x S _ (fun acc=>by simp) (fun acc=>happ hM.box) (fun acc=>happ hM.map) hM.nd hM.lt hM.key (fun acc v it S' K' hacc hK' => ?_) (fun acc it hp => ?_)
  · have ha:∀(e:ET) (σ:St),e.c=1→e.bytes=8→appendL e false (slZ acc) (.list .full 1 [.s (.int .i64 v)]) σ=some (.list .uniq 1 ((acc ++ [v]).map iA),σ):=fun e σ h1 h2=>app_slZ h1 h2 (by have:=hM.len; omega)
    rw [List.append_assoc]
    refine hR _ _ _ _ _ _ _ (by rw [app_get]; rfl) rfl ?_
    simp only [C_slices_AppendSeq_int64_a0,C_slices_AppendSeq_int64_b0,A_,simprocAttr,ne_eq,(U_slices_AppendSeq_int64 _ _ _).1,load_kept,ha,st]
    rw [List.append_assoc,slZ_snoc] at hK'
    exact hK'
  · rw [List.append_assoc]
    simp only [C_slices_AppendSeq_int64,A_,simprocAttr,ne_eq,(U_slices_AppendSeq_int64 _ _ _).1,load_kept]
    exact ⟨slZ_under,hK _ _ hp⟩
theorem Collect_spec {C:CallW} (P:Program) {c:Nat→FuncId} {g:FuncId} (h0:AppSeqS C (c 0) g):∀(bx hm cc:Nat) (es:List Entry) (x:Entry→Int) S H (K:AV→St→Prop),MapI H bx hm cc es x→(∀acc G,acc.Perm (es.map x)→K (slZ acc) ⟨S,H ++ G⟩)→runL C P (C_slices_Collect_int64 c) [.fn (.func g) [] [.ptr (.heap bx) 0]] ⟨S,H⟩ K:=by
  intro bx hm cc es x S H K hM hK
  simp only [C_slices_Collect_int64,A_,simprocAttr,ne_eq,(U_slices_Collect_int64 _).1]
  refine h0 bx hm cc es x S H _ hM fun acc G hp => ?_
  simp only [C_slices_Collect_int64,A_,simprocAttr,ne_eq,(U_slices_Collect_int64 _).1]
  exact ⟨slZ_under,hK _ _ hp⟩
def CollS (C:CallW) (f g:FuncId):Prop:=∀(bx hm c:Nat) (es:List Entry) (x:Entry→Int) S H (K:AV→St→Prop),MapI H bx hm c es x→(∀acc G,acc.Perm (es.map x)→K (slZ acc) ⟨S,H ++ G⟩)→C (.fn f) [.fn (.func g) [] [.ptr (.heap bx) 0]] ⟨S,H⟩ K
def arrZ (l:List Int):Array Int:=l.toArray
theorem arrZ_flat (l:List Int):flat iA (arrZ l)=l.map iA:=by rw [flat_iA]; rfl
theorem thaw_slZ {fr:Fr} {t:Nat} {l:List Int} {S:List (List AV)} {H:List HObj} (hne:l≠[]) (h:fr.getD t .undef=slZ l):AM.thaw fr (.tmp t) ⟨S,H⟩=some (.row (.stk S.length) 0 l.length l.length,fr.set t (.row (.stk S.length) 0 l.length l.length),⟨S ++ [flat iA (arrZ l)],H⟩):=by
  have hc:∀l:List Int,(l.map iA).flatMap AV.cells=l.map iA:=by
    intro l
    induction l with
    | nil=>rfl
    | cons x l ih=>rw [List.map_cons,List.flatMap_cons,ih]; rfl
  have hu:∀(m:Nat) (l:List Int),underL m (l.map iA)=true:=by
    intro m l
    induction l with
    | nil=>rfl
    | cons x l ih=>exact ih
  unfold AM.thaw
  simp only [h,slZ,if_neg hne]
  rw [if_neg (by simp [hne]),hc,newBox_stk (hu _ _),arrZ_flat]
  simp
theorem thaw_slZ0 {fr:Fr} {t:Nat} {σ:St} (h:fr.getD t .undef=slZ []):AM.thaw fr (.tmp t) σ=some (.s .nilS,fr,σ):=by
  unfold AM.thaw
  simp only [h]
  rfl
theorem sorted_le {R:Array Int} {n:Nat} (hn:R.size=n) (h:Sort.SortedIn ltI 0 n R):R.toList.Pairwise (·≤·):=by
  rw [List.pairwise_iff_getElem]
  intro i j hi hj hij
  have hj':j < R.size:=by simpa using hj
  have hi':i < R.size:=by simpa using hi
  have:=h i j (Nat.zero_le _) hij (by omega)
  rw [get_bang hj',get_bang hi'] at this
  unfold ltI at this
  have:=of_decide_eq_false this
  omega
theorem sorted_perm {R:Array Int} {l:List Int} (h:Sort.PermIn 0 l.length (arrZ l) R):R.toList.Perm l:=by
  have hsz:R.size=l.length:=h.1
  have:=h.2.2
  rw [←hsz,Array.extract_size,hsz] at this
  rw [show l.length=(arrZ l).size from rfl,Array.extract_size] at this
  exact this
def lstZ (l:List Int):AV := .list .sh 1 (l.map iA)
def SortedS (C:CallW) (f g:FuncId):Prop:=∀(bx hm c:Nat) (es:List Entry) (x:Entry→Int) S H (K:AV→St→Prop),MapI H bx hm c es x→(∀ids G,ids.Perm (es.map x)→ids.Pairwise (·≤·)→K (lstZ ids) ⟨S,H ++ G⟩)→C (.fn f) [.fn (.func g) [] [.ptr (.heap bx) 0]] ⟨S,H⟩ K
set_option maxHeartbeats 4000000 in
theorem Sorted_spec {C:CallW} (P:Program) {c:Nat→FuncId} {g:FuncId} (h0:CollS C (c 0) g) (h1:SortIS C (c 1)) (h1n:OneN C (c 1) (.tup [])):∀(bx hm cc:Nat) (es:List Entry) (x:Entry→Int) S H (K:AV→St→Prop),MapI H bx hm cc es x→(∀ids G,ids.Perm (es.map x)→ids.Pairwise (·≤·)→K (lstZ ids) ⟨S,H ++ G⟩)→runL C P (C_slices_Sorted_int64 c) [.fn (.func g) [] [.ptr (.heap bx) 0]] ⟨S,H⟩ (WkK K):=by
  intro bx hm cc es x S H K hM hK
  have hfz:∀(e:ET) (σ:St),freezeL e (.s .nilS) σ=some (.s .nilS,σ):=fun _ _=>rfl
  simp only [C_slices_Sorted_int64,A_,simprocAttr,ne_eq,(U_slices_Sorted_int64 _).1]
  refine h0 bx hm cc es x S H _ hM fun acc G hp => ?_
  have hal:acc.length≤1000000:=by have:=hp.length_eq; rw [List.length_map] at this; have:=hM.len; omega
  by_cases e:acc=[]
  · subst e
    simp only [C_slices_Sorted_int64,A_,simprocAttr,ne_eq,(U_slices_Sorted_int64 _).1]
    rw [thaw_slZ0 rfl]
    simp only [C_slices_Sorted_int64,A_,simprocAttr,ne_eq,(U_slices_Sorted_int64 _).1]
    refine h1n _ _ _ ?_
    simp only [C_slices_Sorted_int64,A_,simprocAttr,ne_eq,(U_slices_Sorted_int64 _).1,slZ_nil,hfz]
    exact ⟨_,.inr (.nilS (by omega) .nil),hK [] G hp .nil⟩
  · simp only [C_slices_Sorted_int64,A_,simprocAttr,ne_eq,(U_slices_Sorted_int64 _).1]
    rw [thaw_slZ e rfl]
    have hS1:(S ++ [flat iA (arrZ acc)])[S.length]? = some (flat iA (arrZ acc)):=by simp
    simp only [C_slices_Sorted_int64,A_,simprocAttr,ne_eq,(U_slices_Sorted_int64 _).1,List.set_cons_zero,List.set_cons_succ]
    refine h1 S.length (arrZ acc) _ _ _ hS1 (by show acc.length≤_; omega) fun R hR1 hR2 => ?_
    have hRs:R.size=acc.length:=hR1.1
    have hset:∀x y:List AV,(S ++ [x]).set S.length y=S ++ [y]:=fun x y=>by simp
    rw [hset]
    have hS2:(S ++ [flat iA R])[S.length]? = some (flat iA R):=by simp
    have hf:∀{e:ET},e.c=1→e.ag=false→freezeL e (.row (.stk S.length) 0 acc.length acc.length) ⟨S ++ [flat iA R],H ++ G⟩=_:=fun h1 h2=>freeze_i (H:=H ++ G) h1 h2 hS2 (by omega)
    simp only [hset] at hf
    rw [List.take_of_length_le (by simp [hRs])] at hf
    simp only [C_slices_Sorted_int64,A_,simprocAttr,ne_eq,(U_slices_Sorted_int64 _).1,hf]
    exact ⟨_,.inl rfl,hK R.toList G ((sorted_perm hR1).trans hp) (sorted_le hRs hR2)⟩
end Go.AM
namespace Go.AM
open Go
open AV renaming undef → uu
set_option maxRecDepth 20000
def lstE (l:List Ent):AV := .list .sh 6 (l.map entA)
def keyI (e:Entry):Int:=match e.key with
  | .s (.int _ n)=>n
  | _=>0
theorem rel_keys {es:List Entry} {tb:List Ent} (h:RelM iA Ent.id entA es tb):(∀e∈es,e.key=iA (keyI e))∧es.map keyI=tb.map Ent.id:=by
  unfold RelM at h
  induction es generalizing tb with
  | nil=>cases tb with
    | nil=>exact ⟨fun e h=>by (cases h),rfl⟩
    | cons=>cases h
  | cons e es ih=>cases tb with
    | nil=>cases h
    | cons t tb =>
      simp only [List.map_cons,List.cons.injEq,Prod.mk.injEq] at h
      obtain ⟨q1,q2⟩:=ih h.2
      have hk:keyI e=t.id:=by unfold keyI; rw [h.1.1]; rfl
      refine ⟨fun z hz => ?_,by rw [List.map_cons,List.map_cons,q2,hk]⟩
      rcases List.mem_cons.1 hz with rfl | hz
      · rw [hk]; exact h.1.1
      · exact q1 z hz
theorem getB_self {tb:List Ent} (hn:(tb.map Ent.id).Nodup) {t:Ent} (ht:t∈tb):getB Ent.id tb t.id=some t:=by
  induction tb with
  | nil=>cases ht
  | cons y tb ih =>
    rw [List.map_cons,List.nodup_cons] at hn
    unfold getB
    rw [List.find?_cons]
    rcases List.mem_cons.1 ht with rfl | ht
    · simp
    · have:¬y.id=t.id:=fun e=>hn.1 (List.mem_map.2 ⟨t,ht,e.symm⟩)
      rw [decide_eq_false this]
      exact ih hn.2 ht
def AllS (C:CallW) (f:FuncId):Prop:=∀(h h1 h2:Nat) (tb:List Ent) (hl:List (Key×Int)) S H (K:AV→St→Prop),TabH H h h1 h2 tb hl→(tb.map Ent.id).Nodup→tb.length≤1000→(∀x∈tb,x.writes.length≤1000000)→(∀l G,l.Perm tb→(l.map Ent.id).Pairwise (·≤·)→K (lstE l) ⟨S,H ++ G⟩)→C (.fn f) [.ptr (.heap h) 0] ⟨S,H⟩ K
set_option maxHeartbeats 4000000 in
theorem prep_All_spec {C:CallW} (hC:LeC C C) (P:Program) {c:Nat→FuncId} {g:FuncId} (h0:KeysS C (c 0) g) (h1:SortedS C (c 1) g) (h2:CopS C (c 2)):∀(h j1 j2:Nat) (tb:List Ent) (hl:List (Key×Int)) S H (K:AV→St→Prop),TabH H h j1 j2 tb hl→(tb.map Ent.id).Nodup→tb.length≤1000→(∀x∈tb,x.writes.length≤1000000)→(∀l G,l.Perm tb→(l.map Ent.id).Pairwise (·≤·)→K (lstE l) ⟨S,H ++ G⟩)→runL C P (C_prep_Table_All c) [.ptr (.heap h) 0] ⟨S,H⟩ (WkK K):=by
  intro h j1 j2 tb hl S H K t hn hlen hw hK
  have a0:=t.at0
  obtain ⟨es1,c1,b1,g1⟩:=t.at1
  obtain ⟨k1,k2⟩:=rel_keys g1.rel
  have hes:es1.length=tb.length:=by have:=congrArg List.length g1.rel; simpa [RelM] using this
  simp only [C_prep_Table_All,A_,simprocAttr,ne_eq,(U_prep_Table_All _).1,a0]
  refine h0 j1 _ _ _ ?_
  simp only [C_prep_Table_All,A_,simprocAttr,ne_eq,(U_prep_Table_All _).1]
  refine h1 H.length j1 c1 es1 keyI _ _ _ ⟨by simp,happ b1,g1.nd,g1.lt,k1,by omega⟩ fun ids G hp hs => ?_
  rw [k2] at hp
  have hil:ids.length≤1000:=by have:=hp.length_eq; rw [List.length_map] at this; omega
  rw [List.append_assoc]
  generalize [HObj.cells [AV.map j1]] ++ G=G1
  have t1:=t.app (G:=G1)
  have a1:=t1.at0
  have hin:∀i∈ids,∃x∈tb,x.id=i∧getB Ent.id tb i=some x:=fun i hi=>by
    obtain ⟨x,hx,he⟩:=List.mem_map.1 (hp.mem_iff.1 hi)
    subst he
    exact ⟨x,hx,rfl,getB_self hn hx⟩
  simp only [lstZ,C_prep_Table_All,A_,simprocAttr,ne_eq,(U_prep_Table_All _).1]
  refine loop_rule hC (α:=Nat) (fun a=>ids.length - a) (fun a=>[.ptr (.heap h) 0,uu,uu,slG 6 ((ids.take a).map fun i=>entA (entOf tb i).1),uu,uu,uu,uu,uu,uu,uu,.list .sh 1 (ids.map iA),.s (.int .i64 ids.length),.s (.int .i64 (a:Nat)),uu,uu,uu,uu,uu,uu,uu,uu,uu,uu,uu,uu,uu,uu,uu]) (fun _=>S) (fun a=>H ++ G1) (fun a=>a≤ids.length) 0 (Nat.zero_le _) (by simp [keep,zm]; rfl) (by simp) rfl (fun a _=>by simp [AV.under,AV.under.go,slG_under]) ?_
  intro i hi ih
  by_cases h16:i < ids.length
  · have hlt:((i:Int) < (ids.length:Int)):=by omega
    have hwi:=wrap_succ (i:=i) (by omega)
    have htk:ids.take (i + 1)=ids.take i ++ [ids[i]]:=List.take_succ_eq_append_getElem h16
    obtain ⟨x,hx,hxi,hg⟩:=hin ids[i] (List.getElem_mem h16)
    have hE:(entOf tb ids[i]).1=x:=by unfold entOf; rw [hg]
    have x1:∀k:IntKind,indexAddrL (.sl 1) (.list .sh 1 (ids.map iA)) (.s (.int k (i:Int)))=some (.rop [.s (.int .i64 ids[i])]):=fun k=>ixl_map h16 (by omega)
    have l1:=fun S'=>t1.look1 (S:=S') ids[i] zEA false
    simp only [hg,lookR,if_false,Bool.false_eq_true,zEA] at l1
    have ha:∀(e:ET) (σ:St),e.c=6→e.bytes=64→appendL e false (slG 6 ((ids.take i).map fun i=>entA (entOf tb i).1)) (.list .full 6 [.agg (enc x)]) σ=some (slG 6 ((ids.take i).map (fun i=>entA (entOf tb i).1) ++ [entA x]),σ):=fun e σ h1 h2=>by
      have:=app_slG (e:=e) (es:=(ids.take i).map fun i=>entA (entOf tb i).1) (a:=entA x) (σ:=σ) rfl (by rw [List.length_map,List.length_take,h2]; omega)
      rw [h1] at this
      exact this
    simp only [C_prep_Table_All,A_,simprocAttr,ne_eq,(U_prep_Table_All _).1,hlt,x1,a1,l1]
    refine h2 x _ _ _ (hw x hx) ?_
    have hb1:(enc x).length=6:=rfl
    have hb2:AV.under.go 0 (enc x)=true:=rfl
    simp only [entA] at ha
    simp only [entA,C_prep_Table_All,A_,simprocAttr,ne_eq,(U_prep_Table_All _).1,hlt,x1,a1,l1,hb1,hb2,ha,hwi]
    refine ih (i + 1) _ _ _ (by omega) (by omega) ?_ (by simp) rfl
    have hF:(ids.take (i + 1)).map (fun i=>entA (entOf tb i).1)=(ids.take i).map (fun i=>entA (entOf tb i).1) ++ [entA x]:=by rw [htk,List.map_append,List.map_cons,hE]; rfl
    rw [hF]
    simp [keep,zm,entA]
  · have hlt:¬((i:Int) < (ids.length:Int)):=by omega
    have:i=ids.length:=by omega
    subst this
    rw [List.take_length]
    have hl:(ids.map fun i=>(entOf tb i).1).Perm tb:=by
      have:=hp.map fun i=>(entOf tb i).1
      rw [List.map_map] at this
      refine this.trans ?_
      have e:∀(l:List Ent),(∀x∈l,x∈tb)→l.map ((fun i=>(entOf tb i).1) ∘ Ent.id)=l:=by
        intro l
        induction l with
        | nil=>intro _; rfl
        | cons y l ih2 =>
          intro hy
          rw [List.map_cons,ih2 fun x hx=>hy x (List.mem_cons_of_mem _ hx)]
          congr 1
          show (entOf tb y.id).1=y
          unfold entOf
          rw [getB_self hn (hy y List.mem_cons_self)]
      rw [e tb fun x hx=>hx]
    have hl2:(ids.map fun i=>(entOf tb i).1).map Ent.id=ids:=by
      rw [List.map_map]
      have e:∀(l:List Int),(∀i∈l,i∈ids)→l.map (Ent.id ∘ fun i=>(entOf tb i).1)=l:=by
        intro l
        induction l with
        | nil=>intro _; rfl
        | cons y l ih2 =>
          intro hy
          rw [List.map_cons,ih2 fun x hx=>hy x (List.mem_cons_of_mem _ hx)]
          congr 1
          obtain ⟨x,hx,hxi,hg⟩:=hin y (hy y List.mem_cons_self)
          show (entOf tb y).1.id=y
          unfold entOf
          rw [hg]; exact hxi
      exact e ids fun i hi=>hi
    simp only [C_prep_Table_All,A_,simprocAttr,ne_eq,(U_prep_Table_All _).1,hlt]
    refine ⟨_,.inr ?_,hK _ G1 hl (by rw [hl2]; exact hs)⟩
    unfold lstE
    rw [List.map_map]
    by_cases e:ids=[]
    · subst e; exact .nilS (by omega) .nil
    · unfold slG
      rw [if_neg (by simpa using e)]
      exact .same .nil
end Go.AM
namespace Go.AM
open Go
set_option maxRecDepth 20000
theorem law13_at_spec {C:CallW} (P:Program):∀(t:Int) S H (K:AV→St→Prop),K (.agg (stc ⟨t,0⟩)) ⟨S,H⟩→runL C P C_hourglasslaw13_at [.s (.int .i64 t)] ⟨S,H⟩ K:=by
  intro t S H K hK
  simp only [C_hourglasslaw13_at,A_,simprocAttr,ne_eq,U_hourglasslaw13_at.1]
  exact hK
theorem entA_cell (e:Ent):∀c∈enc e,c.isCell=true:=by
  intro c hc
  simp only [enc,List.mem_cons,List.not_mem_nil,or_false] at hc
  rcases hc with rfl | rfl | rfl | rfl | rfl | rfl <;> rfl
def OfES (C:CallW) (f:FuncId):Prop:=∀(id:Int) (s:List UInt8) (t:Int) S H (K:AV→St→Prop),K (entA ⟨id,⟨0,0⟩,⟨t,0⟩,[⟨(keyOf s).1,[118],false⟩]⟩) ⟨S,H⟩→C (.fn f) [.s (.int .i64 id),.s (.str s),.s (.int .i64 t)] ⟨S,H⟩ K
theorem law13_of_spec {C:CallW} (P:Program) {c:Nat→FuncId} (h0:∀t:Int,FnS C (c 0) [.s (.int .i64 t)] (.agg (stc ⟨t,0⟩))) (h1:kS C (c 1)):∀(id:Int) (s:List UInt8) (t:Int) S H (K:AV→St→Prop),K (entA ⟨id,⟨0,0⟩,⟨t,0⟩,[⟨(keyOf s).1,[118],false⟩]⟩) ⟨S,H⟩→runL C P (C_hourglasslaw13_of c) [.s (.int .i64 id),.s (.str s),.s (.int .i64 t)] ⟨S,H⟩ (WkK K):=by
  intro id s t S H K hK
  simp only [C_hourglasslaw13_of,A_,simprocAttr,ne_eq,(U_hourglasslaw13_of _).1]
  refine h0 t _ _ _ ?_
  simp only [stc,C_hourglasslaw13_of,A_,simprocAttr,ne_eq,(U_hourglasslaw13_of _).1]
  refine h1 _ _ _ _ ?_
  simp only [C_hourglasslaw13_of,A_,simprocAttr,ne_eq,(U_hourglasslaw13_of _).1,bslL,fillE,List.isEmpty_cons,List.isEmpty_nil]
  exact ⟨_,.inr (.agg (.same (.same (.same (.same (.same (.full .nil)))))) (entA_cell ⟨id,⟨0,0⟩,⟨t,0⟩,[⟨(keyOf s).1,[118],false⟩]⟩) .nil),hK⟩
def entK:Ent:=⟨7,⟨0,0⟩,⟨5,0⟩,[⟨padK [97],[118],false⟩]⟩
def AwPS (C:CallW) (f:FuncId):Prop:=∀S H (K:AV→St→Prop),(∀H',K (.bool true) ⟨S,H'⟩)→C (.fn f) [] ⟨S,H⟩ K
set_option maxHeartbeats 2000000 in
theorem law13_awake_spec {C:CallW} (hC:LeC C C) (P:Program) {c:Nat→FuncId} (h0:NewTS C (c 0)) (h1:OfES C (c 1)) (h2:AddS C (c 2)) (h3:kS C (c 3)) (h4:BlocksS C (c 4)) (h5:∀t:Int,FnS C (c 5) [.s (.int .i64 t)] (.agg (stc ⟨t,0⟩))) (h6:AllS C (c 6)):∀S H (K:AV→St→Prop),(∀H',K (.bool true) ⟨S,H'⟩)→runL C P (C_hourglasslaw13_awake c) [] ⟨S,H⟩ K:=by
  intro S H K hK
  have e1:keyOf [97]=(padK [97],0):=by decide
  have hg:goodE entK=true:=by decide
  have ea:addT [] [] entK=(0,[entK],[(padK [97],7)]):=by
    unfold addT
    rw [if_neg (by rw [hg]; simp)]
    rfl
  have eb1:blocksT [entK] [(padK [97],7)] (padK [97]) ⟨4,9⟩=(0,false):=by decide
  have eb2:blocksT [entK] [(padK [97],7)] (padK [97]) ⟨5,0⟩=(7,true):=by decide
  have hre:∀n:Nat,refEq 0 (.ptr (.heap n) 0) (.s .nilP)=some false:=fun _=>rfl
  simp only [C_hourglasslaw13_awake,A_,simprocAttr,ne_eq,(U_hourglasslaw13_awake _).1]
  refine h0 _ _ _ ?_
  have t0:=newTab (H:=H)
  simp only [C_hourglasslaw13_awake,A_,simprocAttr,ne_eq,(U_hourglasslaw13_awake _).1,hre]
  refine h1 7 [97] 5 _ _ _ ?_
  rw [e1]
  simp only [C_hourglasslaw13_awake,A_,simprocAttr,ne_eq,(U_hourglasslaw13_awake _).1]
  refine h2 (H.length + 2) H.length (H.length + 1) [] [] entK _ _ _ (by decide) t0 fun H1 _ t1 => ?_
  rw [ea] at t1 ⊢
  simp only [C_hourglasslaw13_awake,A_,simprocAttr,ne_eq,(U_hourglasslaw13_awake _).1]
  refine h3 [97] _ _ _ ?_
  rw [e1]
  simp only [C_hourglasslaw13_awake,A_,simprocAttr,ne_eq,(U_hourglasslaw13_awake _).1,bslL,fillE,List.isEmpty_cons,List.isEmpty_nil]
  refine h4 _ _ _ _ _ (padK [97]) ⟨4,9⟩ _ _ _ t1 ?_
  rw [eb1]
  simp only [C_hourglasslaw13_awake,A_,simprocAttr,ne_eq,(U_hourglasslaw13_awake _).1]
  refine h3 [97] _ _ _ ?_
  rw [e1]
  simp only [C_hourglasslaw13_awake,A_,simprocAttr,ne_eq,(U_hourglasslaw13_awake _).1]
  refine h5 5 _ _ _ ?_
  simp only [C_hourglasslaw13_awake,A_,simprocAttr,ne_eq,(U_hourglasslaw13_awake _).1]
  refine h4 _ _ _ _ _ (padK [97]) ⟨5,0⟩ _ _ _ t1 ?_
  rw [eb2]
  simp only [C_hourglasslaw13_awake,A_,simprocAttr,ne_eq,(U_hourglasslaw13_awake _).1]
  refine h6 _ _ _ _ _ _ _ _ t1 (by decide) (by decide) (by decide) fun l G hp _ => ?_
  have hl:l.length=1:=hp.length_eq
  unfold lstE
  simp only [C_hourglasslaw13_awake,A_,simprocAttr,ne_eq,(U_hourglasslaw13_awake _).1,hl]
  exact hK _
end Go.AM
namespace Go.AM
open Go
set_option maxRecDepth 20000
end Go.AM
namespace Go.AM
open Go
set_option maxRecDepth 20000
end Go.AM
namespace Go.AM
open Go
set_option maxRecDepth 20000
end Go.AM
namespace Go.AM
open Go
set_option maxRecDepth 20000
def LongS (C:CallW) (f:FuncId):Prop:=∀(l:List Wr) S H (K:AV→St→Prop),l.length≤9223372036854775807→K (.bool (longW l)) ⟨S,H⟩→C (.fn f) [lstW l] ⟨S,H⟩ K
end Go.AM
namespace Go.AM
open Go
set_option maxRecDepth 20000
structure InvT (tb:List Ent) (hl:List (Key×Int)):Prop where
  ids:(tb.map Ent.id).Nodup
  keys:(hl.map Prod.fst).Nodup
  good:∀e∈tb,goodE e=true
  has:∀e∈tb,∀w∈e.writes,(w.key,e.id)∈hl
  own:∀p∈hl,∃e∈tb,e.id=p.2∧p.1∈e.writes.map (·.key)
  few:tb.length≤100
theorem InvT.nil:InvT [] []:=⟨.nil,.nil,fun e h=>(by cases h),fun e h=>(by cases h),fun p h=>(by cases h),Nat.zero_le _⟩
theorem good_len {e:Ent} (h:goodE e=true):e.writes.length≤16:=by
  unfold goodE mayE at h
  simp only [Bool.and_eq_true,decide_eq_true_eq] at h
  exact h.1.1.1.2
theorem InvT.len {tb:List Ent} {hl:List (Key×Int)} (h:InvT tb hl):∀x∈tb,x.writes.length≤1000000:=fun x hx=>by have:=good_len (h.good x hx); omega
theorem entOf_in {tb:List Ent} {id:Int} (h:(entOf tb id).2=true):(entOf tb id).1∈tb∧(entOf tb id).1.id=id:=by
  unfold entOf at h ⊢
  cases hg:getB Ent.id tb id with
  | none=>rw [hg] at h; cases h
  | some x=>exact getB_mem hg
theorem entOf_out {tb:List Ent} {id:Int} (h:(entOf tb id).2=false):entOf tb id=(zEnt,false)∧∀x∈tb,x.id≠id:=by
  unfold entOf at h ⊢
  cases hg:getB Ent.id tb id with
  | none=>exact ⟨rfl,getB_none hg⟩
  | some x=>rw [hg] at h; cases h
theorem InvT.add {tb:List Ent} {hl:List (Key×Int)} (h:InvT tb hl) (e:Ent):InvT (addT tb hl e).2.1 (addT tb hl e).2.2:=by
  unfold addT
  by_cases hg:goodE e=false
  · rw [if_pos hg]; exact h
  rw [if_neg hg]
  cases ho:(entOf tb e.id).2 with
  | true=>rw [if_pos rfl]; exact h
  | false =>
  rw [if_neg (by simp)]
  cases hh:heldT hl e.writes with
  | true=>rw [if_pos rfl]; exact h
  | false =>
  rw [if_neg (by simp)]
  by_cases hf:100≤tb.length
  · rw [if_pos hf]; exact h
  rw [if_neg hf]
  have hgood:goodE e=true:=by simpa using hg
  refine ⟨?_,?_,?_,?_,?_,?_⟩
  · rw [List.map_append,List.nodup_append]
    refine ⟨h.ids,by simp,fun a ha b hb => ?_⟩
    have hb:b=e.id:=by simpa using hb
    obtain ⟨x,hx,rfl⟩:=List.mem_map.1 ha
    rw [hb]
    exact (entOf_out ho).2 x hx
  · rw [List.map_append,List.map_map,List.nodup_append]
    refine ⟨h.keys,good_nodup hgood,fun a ha b hb => ?_⟩
    obtain ⟨p,hp,rfl⟩:=List.mem_map.1 ha
    obtain ⟨w,hw,rfl⟩:=List.mem_map.1 hb
    exact held_none hh w hw p hp
  · intro x hx
    rcases List.mem_append.1 hx with hx | hx
    · exact h.good x hx
    · rw [List.mem_singleton.1 hx]; exact hgood
  · intro x hx w hw
    rcases List.mem_append.1 hx with hx | hx
    · exact List.mem_append_left _ (h.has x hx w hw)
    · have hx:=List.mem_singleton.1 hx
      subst hx
      exact List.mem_append_right _ (List.mem_map.2 ⟨w,hw,rfl⟩)
  · intro p hp
    rcases List.mem_append.1 hp with hp | hp
    · obtain ⟨x,hx,q⟩:=h.own p hp
      exact ⟨x,List.mem_append_left _ hx,q⟩
    · obtain ⟨w,hw,rfl⟩:=List.mem_map.1 hp
      exact ⟨e,by simp,rfl,List.mem_map.2 ⟨w,hw,rfl⟩⟩
  · simp; omega
theorem pair_one {hl:List (Key×Int)} (hn:(hl.map Prod.fst).Nodup) {k:Key} {a b:Int} (ha:(k,a)∈hl) (hb:(k,b)∈hl):a=b:=by
  induction hl with
  | nil=>cases ha
  | cons p hl ih =>
    rw [List.map_cons,List.nodup_cons] at hn
    rcases List.mem_cons.1 ha with h1 | h1
    · rcases List.mem_cons.1 hb with h2 | h2
      · rw [←h1] at h2; cases h2; rfl
      · exact absurd (List.mem_map.2 ⟨_,h2,by rw [←h1]⟩) hn.1
    · rcases List.mem_cons.1 hb with h2 | h2
      · exact absurd (List.mem_map.2 ⟨_,h1,by rw [←h2]⟩) hn.1
      · exact ih hn.2 h1 h2
theorem ent_one {tb:List Ent} (hn:(tb.map Ent.id).Nodup) {x y:Ent} (hx:x∈tb) (hy:y∈tb) (h:x.id=y.id):x=y:=by
  have h1:=getB_self hn hx
  have h2:=getB_self hn hy
  rw [h,h2] at h1
  exact (Option.some.inj h1).symm
theorem InvT.drop {tb:List Ent} {hl:List (Key×Int)} (h:InvT tb hl) (id:Int):InvT (dropE tb id) (delK hl (entOf tb id).1.writes):=by
  have hsub:∀x∈dropE tb id,x∈tb∧x.id≠id:=fun x hx=>by
    have:=List.mem_filter.1 hx
    exact ⟨this.1,of_decide_eq_true this.2⟩
  refine ⟨h.ids.sublist (List.filter_sublist.map _),h.keys.sublist (List.filter_sublist.map _),fun x hx=>h.good x (hsub x hx).1,fun x hx w hw => ?_,fun p hp => ?_,Nat.le_trans (List.length_filter_le _ _) h.few⟩
  · obtain ⟨hx1,hx2⟩:=hsub x hx
    have hm:=h.has x hx1 w hw
    refine List.mem_filter.2 ⟨hm,decide_eq_true fun hk => ?_⟩
    cases ho:(entOf tb id).2 with
    | false=>rw [(entOf_out ho).1] at hk; cases hk
    | true =>
      obtain ⟨h1,h2⟩:=entOf_in ho
      obtain ⟨w2,hw2,he⟩:=List.mem_map.1 hk
      have hm2:=h.has _ h1 w2 hw2
      rw [he] at hm2
      exact hx2 ((pair_one h.keys hm hm2).trans h2)
  · have hp2:=List.mem_filter.1 hp
    obtain ⟨x,hx,q1,q2⟩:=h.own p hp2.1
    refine ⟨x,List.mem_filter.2 ⟨hx,decide_eq_true fun e => ?_⟩,q1,q2⟩
    have hk:=of_decide_eq_true hp2.2
    have:x=(entOf tb id).1:=by
      unfold entOf
      rw [←e,getB_self h.ids hx]
    rw [←this] at hk
    exact hk q2
theorem holdOf_yes {hl:List (Key×Int)} (hn:(hl.map Prod.fst).Nodup) {k:Key} {a:Int} (h:(k,a)∈hl):holdOf hl k=(a,true):=by
  unfold holdOf
  cases hg:getB Prod.fst hl k with
  | none=>exact absurd rfl (getB_none hg _ h)
  | some p =>
    obtain ⟨h1,h2⟩:=getB_mem hg
    have:(k,p.2)∈hl:=by rw [←h2]; exact h1
    show (p.2,true)=(a,true)
    rw [pair_one hn this h]
structure Act where
  op:Int
  e:Ent
def actc (a:Act):List AV := .s (.int .i64 a.op) :: enc a.e
def actA (a:Act):AV := .agg (actc a)
theorem ixl_act {l:List Act} {i:Nat} (h:i < l.length) (k:IntKind):indexAddrL (.sl 7) (.list .sh 7 (l.map actA)) (.s (.int k (i:Int)))=some (.rop (.s (.int .i64 l[i].op) :: enc l[i].e)):=ixl_map h (by omega)
theorem ixl_ent {l:List Ent} {i:Nat} (h:i < l.length) (k:IntKind):indexAddrL (.sl 6) (.list .sh 6 (l.map entA)) (.s (.int k (i:Int)))=some (.rop (enc l[i])):=ixl_map h (by omega)
end Go.AM
