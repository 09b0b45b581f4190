import Derived.Test.YtadcnggbhkpcbaaM11
import Derived.Test.YtadcnggbhkpcbaaM10
set_option linter.unusedSimpArgs false
set_option linter.unusedVariables false
namespace Go.AM
open Go
open AV renaming undef → uu
set_option maxRecDepth 20000
theorem SrtS.at {C:CallW} {f:FuncId} {X:Array Int→Nat→Nat→Array Int} (h:SrtS C f X) {N:Nat} (n:Nat) (d:Array Int) (a b:Nat) (S:List (List AV)) (H:List HObj) (K:AV→St→Prop) (hS:S[n]? = some (flat iA d)) (hd:d.size=N) (h1:a≤b) (h2:b≤N) (h3:N≤2305843009213693952) (hK:K (.tup []) ⟨S.set n (flat iA (X d a b)),H⟩):C (.fn f) [.row (.stk n) 0 N N,.s (.int .i64 a),.s (.int .i64 b)] ⟨S,H⟩ K:=by
  subst hd; exact h n d a b S H K hS h1 h2 (by omega) hK
theorem SrtT.at {C:CallW} {f:FuncId} {X:Array Int→Nat→Nat→Array Int} (h:SrtT C f X) {N:Nat} (n:Nat) (d:Array Int) (a b:Nat) (S:List (List AV)) (H:List HObj) (K:AV→St→Prop) (hS:S[n]? = some (flat iA d)) (hd:d.size=N) (h1:a < b) (h2:b≤N) (h3:N≤2305843009213693952) (hK:K (.tup []) ⟨S.set n (flat iA (X d a b)),H⟩):C (.fn f) [.row (.stk n) 0 N N,.s (.int .i64 a),.s (.int .i64 b)] ⟨S,H⟩ K:=by
  subst hd; exact h n d a b S H K hS h1 h2 h3 hK
theorem ChpS.at {C:CallW} {f:FuncId} (h:ChpS C f) {N:Nat} (n:Nat) (d:Array Int) (a b:Nat) (S:List (List AV)) (H:List HObj) (K:AV→St→Prop) (hS:S[n]? = some (flat iA d)) (hd:d.size=N) (h1:a < b) (h2:b≤N) (h3:N≤2305843009213693952) (hK:K (.tup [.s (.int .i64 (Sort.choosePivot ltI d a b).1),.s (.int .i64 (hI (Sort.choosePivot ltI d a b).2))]) ⟨S,H⟩):C (.fn f) [.row (.stk n) 0 N N,.s (.int .i64 a),.s (.int .i64 b)] ⟨S,H⟩ K:=by
  subst hd; exact h n d a b S H K hS h1 h2 h3 hK
theorem PinS.at {C:CallW} {f:FuncId} (h:PinS C f) {N:Nat} (n:Nat) (d:Array Int) (a b:Nat) (S:List (List AV)) (H:List HObj) (K:AV→St→Prop) (hS:S[n]? = some (flat iA d)) (hd:d.size=N) (h1:a < b) (h2:b≤N) (h3:N≤2305843009213693952) (hK:K (.bool (Sort.partialInsertionSort ltI d a b).2) ⟨S.set n (flat iA (Sort.partialInsertionSort ltI d a b).1),H⟩):C (.fn f) [.row (.stk n) 0 N N,.s (.int .i64 a),.s (.int .i64 b)] ⟨S,H⟩ K:=by
  subst hd; exact h n d a b S H K hS h1 h2 h3 hK
theorem PeqS.at {C:CallW} {f:FuncId} (h:PeqS C f) {N:Nat} (n:Nat) (d:Array Int) (a b p:Nat) (S:List (List AV)) (H:List HObj) (K:AV→St→Prop) (hS:S[n]? = some (flat iA d)) (hd:d.size=N) (h0:a≤p) (h1:p < b) (h2:b≤N) (h3:N≤2305843009213693952) (hK:K (.s (.int .i64 (Sort.partitionEqual ltI d a b p).1)) ⟨S.set n (flat iA (Sort.partitionEqual ltI d a b p).2),H⟩):C (.fn f) [.row (.stk n) 0 N N,.s (.int .i64 a),.s (.int .i64 b),.s (.int .i64 p)] ⟨S,H⟩ K:=by
  subst hd; exact h n d a b p S H K hS h0 h1 h2 h3 hK
theorem PartS.at {C:CallW} {f:FuncId} (h:PartS C f) {N:Nat} (n:Nat) (d:Array Int) (a b p:Nat) (S:List (List AV)) (H:List HObj) (K:AV→St→Prop) (hS:S[n]? = some (flat iA d)) (hd:d.size=N) (h0:a≤p) (h1:p < b) (h2:b≤N) (h3:N≤2305843009213693952) (hK:K (.tup [.s (.int .i64 (Sort.partition ltI d a b p).1),.s (.bool (Sort.partition ltI d a b p).2.1)]) ⟨S.set n (flat iA (Sort.partition ltI d a b p).2.2),H⟩):C (.fn f) [.row (.stk n) 0 N N,.s (.int .i64 a),.s (.int .i64 b),.s (.int .i64 p)] ⟨S,H⟩ K:=by
  subst hd; exact h n d a b p S H K hS h0 h1 h2 h3 hK
def PdqS (C:CallW) (f:FuncId) (m:Nat):Prop:=∀(n:Nat) (d:Array Int) (a b lim:Nat) (S:List (List AV)) (H:List HObj) (K:AV→St→Prop),S[n]? = some (flat iA d)→a≤b→b≤d.size→d.size≤2305843009213693952→b - a < m→lim≤2305843009213693952→Sort.Below ltI a b d→(∀R,Sort.PermIn a b d R→Sort.SortedIn ltI a b R→K (.tup []) ⟨S.set n (flat iA R),H⟩)→C (.fn f) [.row (.stk n) 0 d.size d.size,.s (.int .i64 a),.s (.int .i64 b),.s (.int .i64 lim)] ⟨S,H⟩ K
theorem PdqS.at {C:CallW} {f:FuncId} {m:Nat} (h:PdqS C f m) {N:Nat} (n:Nat) (d:Array Int) (a b lim:Nat) (S:List (List AV)) (H:List HObj) (K:AV→St→Prop) (hS:S[n]? = some (flat iA d)) (hd:d.size=N) (h1:a≤b) (h2:b≤N) (h3:N≤2305843009213693952) (h4:b - a < m) (h5:lim≤2305843009213693952) (hB:Sort.Below ltI a b d) (hK:∀R,Sort.PermIn a b d R→Sort.SortedIn ltI a b R→K (.tup []) ⟨S.set n (flat iA R),H⟩):C (.fn f) [.row (.stk n) 0 N N,.s (.int .i64 a),.s (.int .i64 b),.s (.int .i64 lim)] ⟨S,H⟩ K:=by
  subst hd; exact h n d a b lim S H K hS h1 h2 h3 h4 h5 hB hK
set_option maxHeartbeats 16000000 in
theorem y9s19_run {C : CallW} (hC : LeC C C) (P : Program) {c : Nat → FuncId} {m : Nat} (h6 : LessS C (c 6)) (h7 : PeqS C (c 7)) (h8 : PartS C (c 8)) (h9 : PdqS C (c 9) m) {n N a b L lim piv n0 : Nat} {wb wp : Bool} {e : Array Int} {S : List (List AV)} {H : List HObj} {is : List Item} {K : KC} (hS : S[n]? = some (flat iA e)) (hn0 : n0 = S.length) (hes : e.size = N) (hap : a ≤ piv) (hpb : piv < b) (hb : b ≤ N) (hN : N ≤ 2305843009213693952) (hL : L ≤ N) (hlim : lim ≤ 2305843009213693952) (hm : b - a ≤ m) (hB : Sort.Below ltI a b e)
    (hloop:∀(a' b' lim':Nat) (wb' wp':Bool) (e':Array Int) (fr':Fr) (S':List (List AV)),keep (zm false [0,4,4,2,124]) fr'=[.row (.stk n) 0 N N,.s (.int .i64 (a':Nat)),.s (.int .i64 (b':Nat)),.s (.int .i64 (lim':Nat)),uu,uu,uu,uu,.s (.bool wb'),.s (.bool wp'),uu,uu,uu,uu,uu,uu,uu,uu,uu,uu,uu,uu,uu,uu,uu,uu,uu,uu,uu,uu,uu,uu,uu,uu,uu,uu,uu,uu,uu,uu,uu,uu,uu,uu,uu,uu,uu,uu,uu,uu,uu,uu,uu,uu,uu,uu,uu,uu,uu,uu,uu,uu,uu,uu,uu,uu,uu,uu,uu,uu,uu,uu,uu,uu,uu,uu,uu,uu,uu,uu,uu,uu,uu,uu,uu,uu,uu,uu,uu,uu,uu,uu,uu,uu,uu,uu,uu,uu,uu,uu,uu,uu,uu,uu,uu,uu,uu,uu,uu,uu,uu,uu,uu,uu,uu,uu,uu,uu,uu,uu,uu,uu,uu,uu,uu,uu,uu,uu,uu,uu,uu,uu,uu,uu]→S'.take n0=S.set n (flat iA e')→e'.size=N→b' - a' < b - a→a≤a'→b'≤b→a'≤b'→lim'≤2305843009213693952→Sort.Below ltI a' b' e'→(∀R,Sort.PermIn a' b' e' R→Sort.SortedIn ltI a' b' R→Sort.PermIn a b e R∧Sort.SortedIn ltI a b R)→runLp C P false (zm false [0,4,4,2,124]) (y9s26 c) n0 is fr' ⟨S',H⟩ K) :
    ∀(x4 x5 x6 x7 x12 x13 x14 x15 x16 x17 x18 x19 x20 x21 x22 x23 x24 x25 x26 x27 x28 x29 x30 x31 x32 x33 x34 x35 x36 x37 x38 x39 x40 x41 x42 x43 x44 x45 x46 x47 x48 x49 x50 x51 x52 x53 x54 x55 x56 x57 x58 x59 x60 x61 x62 x63 x64 x65 x66 x67 x68 x69 x70 x71 x72 x73 x74 x75 x76 x77 x78 x79 x80 x81 x82 x83 x84 x85 x86 x87 x88 x89 x90 x91 x92 x93 x94 x95 x96 x97 x98 x99 x100 x101 x102 x103 x104 x105 x106 x107 x108 x109 x110 x111 x112 x113 x114 x115 x116 x117 x118 x119 x120 x121 x122 x123 x124 x125 x126 x127 x128 x129 x130 x131 x132 x133:AV),runC C P false (y9s19 c) (.blk 1 :: .lp (zm false [0,4,4,2,124]) (y9s26 c) n0 :: is) [.row (.stk n) 0 N N,.s (.int .i64 (a:Nat)),.s (.int .i64 (b:Nat)),.s (.int .i64 (lim:Nat)),x4,x5,x6,x7,.s (.bool wb),.s (.bool wp),.s (.int .i64 (L:Nat)),.s (.int .i64 (piv:Nat)),x12,x13,x14,x15,x16,x17,x18,x19,x20,x21,x22,x23,x24,x25,x26,x27,x28,x29,x30,x31,x32,x33,x34,x35,x36,x37,x38,x39,x40,x41,x42,x43,x44,x45,x46,x47,x48,x49,x50,x51,x52,x53,x54,x55,x56,x57,x58,x59,x60,x61,x62,x63,x64,x65,x66,x67,x68,x69,x70,x71,x72,x73,x74,x75,x76,x77,x78,x79,x80,x81,x82,x83,x84,x85,x86,x87,x88,x89,x90,x91,x92,x93,x94,x95,x96,x97,x98,x99,x100,x101,x102,x103,x104,x105,x106,x107,x108,x109,x110,x111,x112,x113,x114,x115,x116,x117,x118,x119,x120,x121,x122,x123,x124,x125,x126,x127,x128,x129,x130,x131,x132,x133] ⟨S,H⟩ K:=by
  intro x4 x5 x6 x7 x12 x13 x14 x15 x16 x17 x18 x19 x20 x21 x22 x23 x24 x25 x26 x27 x28 x29 x30 x31 x32 x33 x34 x35 x36 x37 x38 x39 x40 x41 x42 x43 x44 x45 x46 x47 x48 x49 x50 x51 x52 x53 x54 x55 x56 x57 x58 x59 x60 x61 x62 x63 x64 x65 x66 x67 x68 x69 x70 x71 x72 x73 x74 x75 x76 x77 x78 x79 x80 x81 x82 x83 x84 x85 x86 x87 x88 x89 x90 x91 x92 x93 x94 x95 x96 x97 x98 x99 x100 x101 x102 x103 x104 x105 x106 x107 x108 x109 x110 x111 x112 x113 x114 x115 x116 x117 x118 x119 x120 x121 x122 x123 x124 x125 x126 x127 x128 x129 x130 x131 x132 x133
  have hn:=slt hS
  by_cases ha0:0 < a
  · have hlt:((0:Int) < (a:Int))=True:=eq_true (by omega)
    have hwa:IntKind.i64.wrap ((a:Int) - 1)=((a - 1:Nat):Int):=by rw [wrap_i64 (by omega) (by omega)]; omega
    have xa:∀kk:IntKind,indexAddrL (.sl 1) (.row (.stk n) 0 N N) (.s (.int kk ((a - 1:Nat):Int)))=some (.ptr (.stk n) (a - 1)):=fun kk=>ixi (by omega)
    have xb:∀kk:IntKind,indexAddrL (.sl 1) (.row (.stk n) 0 N N) (.s (.int kk (piv:Int)))=some (.ptr (.stk n) piv):=fun kk=>ixi (by omega)
    have ra:=ird (H:=H) hS (i:=a - 1) (by omega)
    have rb:=ird (H:=H) hS (i:=piv) (by omega)
    simp only [unfC (y9s8.eq_1 c),unfC (y9s9.eq_1 c),unfC (y9s10.eq_1 c),unfC (y9s11.eq_1 c),unfC (y9s12.eq_1 c),unfC (y9s13.eq_1 c),unfC (y9s14.eq_1 c),unfC (y9s15.eq_1 c),unfC (y9s16.eq_1 c),unfC (y9s17.eq_1 c),unfC (y9s18.eq_1 c),unfC (y9s19.eq_1 c),A_,simprocAttr,ne_eq,hlt,hwa,xa,xb,ra,rb]
    refine h6 _ _ _ _ _ ?_
    cases hlk:ltI e[a - 1]! e[piv]! with
    | false =>
      simp only [unfC (y9s8.eq_1 c),unfC (y9s9.eq_1 c),unfC (y9s10.eq_1 c),unfC (y9s11.eq_1 c),unfC (y9s12.eq_1 c),unfC (y9s13.eq_1 c),unfC (y9s14.eq_1 c),unfC (y9s15.eq_1 c),unfC (y9s16.eq_1 c),unfC (y9s17.eq_1 c),unfC (y9s18.eq_1 c),unfC (y9s19.eq_1 c),A_,simprocAttr,ne_eq]
      refine h7.at n e a b piv _ _ _ hS hes hap hpb hb hN ?_
      obtain ⟨⟨mid,d4⟩,hx⟩:∃r,Sort.partitionEqual ltI e a b piv=r:=⟨_,rfl⟩
      obtain ⟨g1,g2,hs4,hB4,hfin⟩:=Sort.round_eq Sort.swo_ltInt (Sort.partitionEqual_holds _) ha0 hap hpb (by omega) hB hlk hx
      have hx':Sort.partitionEqual ltI e a b piv=(mid,d4):=hx
      rw [hx']
      simp only [unfC (y9s8.eq_1 c),unfC (y9s9.eq_1 c),unfC (y9s10.eq_1 c),unfC (y9s11.eq_1 c),unfC (y9s12.eq_1 c),unfC (y9s13.eq_1 c),unfC (y9s14.eq_1 c),unfC (y9s15.eq_1 c),unfC (y9s16.eq_1 c),unfC (y9s17.eq_1 c),unfC (y9s18.eq_1 c),unfC (y9s19.eq_1 c),A_,simprocAttr,ne_eq]
      exact hloop mid b lim wb wp d4 _ _ (by simp [keep,zm]) (by rw [List.take_of_length_le]; simp [hn0]) (hs4.trans hes) (by omega) (by omega) (by omega) (by omega) hlim hB4 hfin
    | true =>
      simp only [unfC (y9s8.eq_1 c),unfC (y9s9.eq_1 c),unfC (y9s10.eq_1 c),unfC (y9s11.eq_1 c),unfC (y9s12.eq_1 c),unfC (y9s13.eq_1 c),unfC (y9s14.eq_1 c),unfC (y9s15.eq_1 c),unfC (y9s16.eq_1 c),unfC (y9s17.eq_1 c),unfC (y9s18.eq_1 c),unfC (y9s19.eq_1 c),A_,simprocAttr,ne_eq]
      refine h8.at n e a b piv _ _ _ hS hes hap hpb hb hN ?_
      obtain ⟨⟨mid,ap,d4⟩,hx⟩:∃r,Sort.partition ltI e a b piv=r:=⟨_,rfl⟩
      obtain ⟨g1,g2,hs4,hBa,hBr,hleft,hright⟩:=Sort.round_part Sort.swo_ltInt (Sort.partition_holds _) hap hpb (by omega) hB hx
      have hx':Sort.partition ltI e a b piv=(mid,ap,d4):=hx
      rw [hx']
      have hsz:d4.size=N:=hs4.trans hes
      have hml:IntKind.i64.wrap ((mid:Int) - (a:Int))=((mid - a:Nat):Int):=by rw [wrap_i64 (by omega) (by omega)]; omega
      have hmr:IntKind.i64.wrap ((b:Int) - (mid:Int))=((b - mid:Nat):Int):=by rw [wrap_i64 (by omega) (by omega)]; omega
      have hq:IntKind.i64.wrap ((L:Int).tdiv 8)=((L / 8:Nat):Int):=by rw [show ((L:Int).tdiv 8)=((L / 8:Nat):Int) from rfl,wrap_i64 (by omega) (by omega)]
      have hm1:IntKind.i64.wrap ((mid:Int) + 1)=((mid + 1:Nat):Int):=by rw [wrap_i64 (by omega) (by omega)]; omega
      by_cases hlr:mid - a < b - mid
      · have hlt2:(((mid - a:Nat):Int) < ((b - mid:Nat):Int))=True:=eq_true (by omega)
        simp only [unfC (y9s8.eq_1 c),unfC (y9s9.eq_1 c),unfC (y9s10.eq_1 c),unfC (y9s11.eq_1 c),unfC (y9s12.eq_1 c),unfC (y9s13.eq_1 c),unfC (y9s14.eq_1 c),unfC (y9s15.eq_1 c),unfC (y9s16.eq_1 c),unfC (y9s17.eq_1 c),unfC (y9s18.eq_1 c),unfC (y9s19.eq_1 c),A_,simprocAttr,ne_eq,hml,hmr,hq,hm1,hlt2]
        refine h9.at n d4 a mid lim _ _ _ (sset hS) hsz g1 (by omega) hN (by omega) hlim hBa fun R hR hsR => ?_
        rw [List.set_set]
        obtain ⟨hBL,hfin⟩:=hleft R hR hsR
        simp only [unfC (y9s8.eq_1 c),unfC (y9s9.eq_1 c),unfC (y9s10.eq_1 c),unfC (y9s11.eq_1 c),unfC (y9s12.eq_1 c),unfC (y9s13.eq_1 c),unfC (y9s14.eq_1 c),unfC (y9s15.eq_1 c),unfC (y9s16.eq_1 c),unfC (y9s17.eq_1 c),unfC (y9s18.eq_1 c),unfC (y9s19.eq_1 c),A_,simprocAttr,ne_eq,hml,hmr,hq,hm1,hlt2]
        exact hloop (mid + 1) b lim (decide (((L / 8:Nat):Int)≤((mid - a:Nat):Int))) ap R _ _ (by simp [keep,zm]) (by rw [List.take_of_length_le]; simp [hn0]) (hR.1.trans hsz) (by omega) (by omega) (by omega) (by omega) hlim hBL hfin
      · have hlt2:(((mid - a:Nat):Int) < ((b - mid:Nat):Int))=False:=eq_false (by omega)
        simp only [unfC (y9s8.eq_1 c),unfC (y9s9.eq_1 c),unfC (y9s10.eq_1 c),unfC (y9s11.eq_1 c),unfC (y9s12.eq_1 c),unfC (y9s13.eq_1 c),unfC (y9s14.eq_1 c),unfC (y9s15.eq_1 c),unfC (y9s16.eq_1 c),unfC (y9s17.eq_1 c),unfC (y9s18.eq_1 c),unfC (y9s19.eq_1 c),A_,simprocAttr,ne_eq,hml,hmr,hq,hm1,hlt2]
        refine h9.at n d4 (mid + 1) b lim _ _ _ (sset hS) hsz (by omega) (by omega) hN (by omega) hlim hBr fun R hR hsR => ?_
        rw [List.set_set]
        obtain ⟨hBL,hfin⟩:=hright R hR hsR
        simp only [unfC (y9s8.eq_1 c),unfC (y9s9.eq_1 c),unfC (y9s10.eq_1 c),unfC (y9s11.eq_1 c),unfC (y9s12.eq_1 c),unfC (y9s13.eq_1 c),unfC (y9s14.eq_1 c),unfC (y9s15.eq_1 c),unfC (y9s16.eq_1 c),unfC (y9s17.eq_1 c),unfC (y9s18.eq_1 c),unfC (y9s19.eq_1 c),A_,simprocAttr,ne_eq,hml,hmr,hq,hm1,hlt2]
        exact hloop a mid lim (decide (((L / 8:Nat):Int)≤((b - mid:Nat):Int))) ap R _ _ (by simp [keep,zm]) (by rw [List.take_of_length_le]; simp [hn0]) (hR.1.trans hsz) (by omega) (by omega) (by omega) (by omega) hlim hBL hfin
  · have hlt:((0:Int) < (a:Int))=False:=eq_false (by omega)
    simp only [unfC (y9s8.eq_1 c),unfC (y9s9.eq_1 c),unfC (y9s10.eq_1 c),unfC (y9s11.eq_1 c),unfC (y9s12.eq_1 c),unfC (y9s13.eq_1 c),unfC (y9s14.eq_1 c),unfC (y9s15.eq_1 c),unfC (y9s16.eq_1 c),unfC (y9s17.eq_1 c),unfC (y9s18.eq_1 c),unfC (y9s19.eq_1 c),A_,simprocAttr,ne_eq,hlt]
    refine h8.at n e a b piv _ _ _ hS hes hap hpb hb hN ?_
    obtain ⟨⟨mid,ap,d4⟩,hx⟩:∃r,Sort.partition ltI e a b piv=r:=⟨_,rfl⟩
    obtain ⟨g1,g2,hs4,hBa,hBr,hleft,hright⟩:=Sort.round_part Sort.swo_ltInt (Sort.partition_holds _) hap hpb (by omega) hB hx
    have hx':Sort.partition ltI e a b piv=(mid,ap,d4):=hx
    rw [hx']
    have hsz:d4.size=N:=hs4.trans hes
    have hml:IntKind.i64.wrap ((mid:Int) - (a:Int))=((mid - a:Nat):Int):=by rw [wrap_i64 (by omega) (by omega)]; omega
    have hmr:IntKind.i64.wrap ((b:Int) - (mid:Int))=((b - mid:Nat):Int):=by rw [wrap_i64 (by omega) (by omega)]; omega
    have hq:IntKind.i64.wrap ((L:Int).tdiv 8)=((L / 8:Nat):Int):=by rw [show ((L:Int).tdiv 8)=((L / 8:Nat):Int) from rfl,wrap_i64 (by omega) (by omega)]
    have hm1:IntKind.i64.wrap ((mid:Int) + 1)=((mid + 1:Nat):Int):=by rw [wrap_i64 (by omega) (by omega)]; omega
    by_cases hlr:mid - a < b - mid
    · have hlt2:(((mid - a:Nat):Int) < ((b - mid:Nat):Int))=True:=eq_true (by omega)
      simp only [unfC (y9s8.eq_1 c),unfC (y9s9.eq_1 c),unfC (y9s10.eq_1 c),unfC (y9s11.eq_1 c),unfC (y9s12.eq_1 c),unfC (y9s13.eq_1 c),unfC (y9s14.eq_1 c),unfC (y9s15.eq_1 c),unfC (y9s16.eq_1 c),unfC (y9s17.eq_1 c),unfC (y9s18.eq_1 c),unfC (y9s19.eq_1 c),A_,simprocAttr,ne_eq,hml,hmr,hq,hm1,hlt2]
      refine h9.at n d4 a mid lim _ _ _ (sset hS) hsz g1 (by omega) hN (by omega) hlim hBa fun R hR hsR => ?_
      rw [List.set_set]
      obtain ⟨hBL,hfin⟩:=hleft R hR hsR
      simp only [unfC (y9s8.eq_1 c),unfC (y9s9.eq_1 c),unfC (y9s10.eq_1 c),unfC (y9s11.eq_1 c),unfC (y9s12.eq_1 c),unfC (y9s13.eq_1 c),unfC (y9s14.eq_1 c),unfC (y9s15.eq_1 c),unfC (y9s16.eq_1 c),unfC (y9s17.eq_1 c),unfC (y9s18.eq_1 c),unfC (y9s19.eq_1 c),A_,simprocAttr,ne_eq,hml,hmr,hq,hm1,hlt2]
      exact hloop (mid + 1) b lim (decide (((L / 8:Nat):Int)≤((mid - a:Nat):Int))) ap R _ _ (by simp [keep,zm]) (by rw [List.take_of_length_le]; simp [hn0]) (hR.1.trans hsz) (by omega) (by omega) (by omega) (by omega) hlim hBL hfin
    · have hlt2:(((mid - a:Nat):Int) < ((b - mid:Nat):Int))=False:=eq_false (by omega)
      simp only [unfC (y9s8.eq_1 c),unfC (y9s9.eq_1 c),unfC (y9s10.eq_1 c),unfC (y9s11.eq_1 c),unfC (y9s12.eq_1 c),unfC (y9s13.eq_1 c),unfC (y9s14.eq_1 c),unfC (y9s15.eq_1 c),unfC (y9s16.eq_1 c),unfC (y9s17.eq_1 c),unfC (y9s18.eq_1 c),unfC (y9s19.eq_1 c),A_,simprocAttr,ne_eq,hml,hmr,hq,hm1,hlt2]
      refine h9.at n d4 (mid + 1) b lim _ _ _ (sset hS) hsz (by omega) (by omega) hN (by omega) hlim hBr fun R hR hsR => ?_
      rw [List.set_set]
      obtain ⟨hBL,hfin⟩:=hright R hR hsR
      simp only [unfC (y9s8.eq_1 c),unfC (y9s9.eq_1 c),unfC (y9s10.eq_1 c),unfC (y9s11.eq_1 c),unfC (y9s12.eq_1 c),unfC (y9s13.eq_1 c),unfC (y9s14.eq_1 c),unfC (y9s15.eq_1 c),unfC (y9s16.eq_1 c),unfC (y9s17.eq_1 c),unfC (y9s18.eq_1 c),unfC (y9s19.eq_1 c),A_,simprocAttr,ne_eq,hml,hmr,hq,hm1,hlt2]
      exact hloop a mid lim (decide (((L / 8:Nat):Int)≤((b - mid:Nat):Int))) ap R _ _ (by simp [keep,zm]) (by rw [List.take_of_length_le]; simp [hn0]) (hR.1.trans hsz) (by omega) (by omega) (by omega) (by omega) hlim hBL hfin
set_option maxHeartbeats 32000000 in
theorem pdqsort_spec {C:CallW} (hC:LeC C C) (P:Program) {c:Nat→FuncId} {m:Nat} (h0:SrtS C (c 0) (Sort.insertionSort ltI)) (h1:SrtT C (c 1) (Sort.heapSort ltI)) (h2:SrtT C (c 2) Sort.breakPatterns) (h3:ChpS C (c 3)) (h4:SrtT C (c 4) Sort.reverseRange) (h5:PinS C (c 5)) (h6:LessS C (c 6)) (h7:PeqS C (c 7)) (h8:PartS C (c 8)) (h9:PdqS C (c 9) m):∀(n:Nat) (d:Array Int) (a b lim:Nat) (S:List (List AV)) (H:List HObj) (K:AV→St→Prop),S[n]? = some (flat iA d)→a≤b→b≤d.size→d.size≤2305843009213693952→b - a < m + 1→lim≤2305843009213693952→Sort.Below ltI a b d→(∀R,Sort.PermIn a b d R→Sort.SortedIn ltI a b R→K (.tup []) ⟨S.set n (flat iA R),H⟩)→runL C P (C_slices_pdqsortOrdered_int64 c) [.row (.stk n) 0 d.size d.size,.s (.int .i64 a),.s (.int .i64 b),.s (.int .i64 lim)] ⟨S,H⟩ K:=by
  intro n d a0 b0 lim0 S H K hS hab0 hbd0 hdl hm0 hlim0 hB0 hK
  have hn:=slt hS
  obtain ⟨N,hN0⟩:∃N,d.size=N:=⟨_,rfl⟩
  rw [hN0] at hbd0 hdl ⊢
  have hN:N≤2305843009213693952:=hdl
  simp only [C_slices_pdqsortOrdered_int64,unfC (y9s1.eq_1 c),unfC (y9s2.eq_1 c),unfC (y9s3.eq_1 c),unfC (y9s4.eq_1 c),unfC (y9s5.eq_1 c),unfC (y9s6.eq_1 c),unfC (y9s7.eq_1 c),unfC (y9s20.eq_1 c),unfC (y9s21.eq_1 c),unfC (y9s22.eq_1 c),unfC (y9s23.eq_1 c),unfC (y9s24.eq_1 c),unfC (y9s25.eq_1 c),unfC (y9s26.eq_1 c),unfC (y9s27.eq_1 c),A_,simprocAttr,ne_eq]
  refine loop_rule hC (α:=Nat×Nat×Nat×Bool×Bool×Array Int) (fun x=>x.2.1 - x.1) (fun x=>[.row (.stk n) 0 N N,.s (.int .i64 (x.1:Nat)),.s (.int .i64 (x.2.1:Nat)),.s (.int .i64 (x.2.2.1:Nat)),uu,uu,uu,uu,.s (.bool x.2.2.2.1),.s (.bool x.2.2.2.2.1),uu,uu,uu,uu,uu,uu,uu,uu,uu,uu,uu,uu,uu,uu,uu,uu,uu,uu,uu,uu,uu,uu,uu,uu,uu,uu,uu,uu,uu,uu,uu,uu,uu,uu,uu,uu,uu,uu,uu,uu,uu,uu,uu,uu,uu,uu,uu,uu,uu,uu,uu,uu,uu,uu,uu,uu,uu,uu,uu,uu,uu,uu,uu,uu,uu,uu,uu,uu,uu,uu,uu,uu,uu,uu,uu,uu,uu,uu,uu,uu,uu,uu,uu,uu,uu,uu,uu,uu,uu,uu,uu,uu,uu,uu,uu,uu,uu,uu,uu,uu,uu,uu,uu,uu,uu,uu,uu,uu,uu,uu,uu,uu,uu,uu,uu,uu,uu,uu,uu,uu,uu,uu,uu,uu]) (fun x=>S.set n (flat iA x.2.2.2.2.2)) (fun _=>H) (fun x=>x.1≤x.2.1∧x.2.1≤N∧x.2.2.2.2.2.size=N∧x.2.2.1≤2305843009213693952∧x.2.1 - x.1≤b0 - a0∧Sort.Below ltI x.1 x.2.1 x.2.2.2.2.2∧∀R,Sort.PermIn x.1 x.2.1 x.2.2.2.2.2 R→Sort.SortedIn ltI x.1 x.2.1 R→Sort.PermIn a0 b0 d R∧Sort.SortedIn ltI a0 b0 R) (a0,b0,lim0,true,true,d) ⟨hab0,hbd0,hN0,hlim0,Nat.le_refl _,hB0,fun R h1 h2=>⟨h1,h2⟩⟩ (by simp [keep,zm]) (by rw [sself hS,List.take_of_length_le (Nat.le_refl _)]) rfl (fun x _=>by simp [AV.under,AV.under.go,hn]) ?_
  rintro ⟨a,b,lim,wb,wp,e⟩ ⟨hab,hbN,hes,hlim,hba,hB,hfin⟩ ih
  dsimp only at hab hbN hes hlim hba hB hfin ih ⊢
  have hbe:b≤e.size:=by omega
  have hw0:IntKind.i64.wrap ((b:Int) - (a:Int))=((b - a:Nat):Int):=by rw [wrap_i64 (by omega) (by omega)]; omega
  have hSe:(S.set n (flat iA e))[n]? = some (flat iA e):=sset hS
  by_cases h12:b - a≤12
  · have hlt:(((b - a:Nat):Int)≤12)=True:=eq_true (by omega)
    simp only [unfC (y9s1.eq_1 c),unfC (y9s2.eq_1 c),unfC (y9s3.eq_1 c),unfC (y9s4.eq_1 c),unfC (y9s5.eq_1 c),unfC (y9s6.eq_1 c),unfC (y9s7.eq_1 c),unfC (y9s20.eq_1 c),unfC (y9s21.eq_1 c),unfC (y9s22.eq_1 c),unfC (y9s23.eq_1 c),unfC (y9s24.eq_1 c),unfC (y9s25.eq_1 c),unfC (y9s26.eq_1 c),unfC (y9s27.eq_1 c),A_,simprocAttr,ne_eq,hw0,hlt]
    refine h0.at n e a b _ _ _ hSe hes hab hbN hN ?_
    rw [List.set_set]
    obtain ⟨q1,q2⟩:=Sort.insertionSort_holds Sort.swo_ltInt e a b hab hbe
    obtain ⟨q3,q4⟩:=hfin _ q1 q2
    simp only [unfC (y9s1.eq_1 c),unfC (y9s2.eq_1 c),unfC (y9s3.eq_1 c),unfC (y9s4.eq_1 c),unfC (y9s5.eq_1 c),unfC (y9s6.eq_1 c),unfC (y9s7.eq_1 c),unfC (y9s20.eq_1 c),unfC (y9s21.eq_1 c),unfC (y9s22.eq_1 c),unfC (y9s23.eq_1 c),unfC (y9s24.eq_1 c),unfC (y9s25.eq_1 c),unfC (y9s26.eq_1 c),unfC (y9s27.eq_1 c),A_,simprocAttr,ne_eq]
    exact hK _ q3 q4
  have hlt:(((b - a:Nat):Int)≤12)=False:=eq_false (by omega)
  by_cases hl0:lim=0
  · subst hl0
    have hlt0:(((0:Nat):Int)=0)=True:=eq_true rfl
    simp only [unfC (y9s1.eq_1 c),unfC (y9s2.eq_1 c),unfC (y9s3.eq_1 c),unfC (y9s4.eq_1 c),unfC (y9s5.eq_1 c),unfC (y9s6.eq_1 c),unfC (y9s7.eq_1 c),unfC (y9s20.eq_1 c),unfC (y9s21.eq_1 c),unfC (y9s22.eq_1 c),unfC (y9s23.eq_1 c),unfC (y9s24.eq_1 c),unfC (y9s25.eq_1 c),unfC (y9s26.eq_1 c),unfC (y9s27.eq_1 c),A_,simprocAttr,ne_eq,hw0,hlt,hlt0]
    refine h1.at n e a b _ _ _ hSe hes (by omega) hbN hN ?_
    rw [List.set_set]
    obtain ⟨q1,q2⟩:=Sort.heapSort_holds Sort.swo_ltInt e a b hab hbe
    obtain ⟨q3,q4⟩:=hfin _ q1 q2
    simp only [unfC (y9s1.eq_1 c),unfC (y9s2.eq_1 c),unfC (y9s3.eq_1 c),unfC (y9s4.eq_1 c),unfC (y9s5.eq_1 c),unfC (y9s6.eq_1 c),unfC (y9s7.eq_1 c),unfC (y9s20.eq_1 c),unfC (y9s21.eq_1 c),unfC (y9s22.eq_1 c),unfC (y9s23.eq_1 c),unfC (y9s24.eq_1 c),unfC (y9s25.eq_1 c),unfC (y9s26.eq_1 c),unfC (y9s27.eq_1 c),A_,simprocAttr,ne_eq]
    exact hK _ q3 q4
  have hlt0:((lim:Int)=0)=False:=eq_false (by omega)
  have loop2:∀(e2:Array Int),Sort.PermIn a b e e2→∀(a' b' lim':Nat) (wb' wp':Bool) (e':Array Int) (fr':Fr) (S':List (List AV)),keep (zm false [0,4,4,2,124]) fr'=[.row (.stk n) 0 N N,.s (.int .i64 (a':Nat)),.s (.int .i64 (b':Nat)),.s (.int .i64 (lim':Nat)),uu,uu,uu,uu,.s (.bool wb'),.s (.bool wp'),uu,uu,uu,uu,uu,uu,uu,uu,uu,uu,uu,uu,uu,uu,uu,uu,uu,uu,uu,uu,uu,uu,uu,uu,uu,uu,uu,uu,uu,uu,uu,uu,uu,uu,uu,uu,uu,uu,uu,uu,uu,uu,uu,uu,uu,uu,uu,uu,uu,uu,uu,uu,uu,uu,uu,uu,uu,uu,uu,uu,uu,uu,uu,uu,uu,uu,uu,uu,uu,uu,uu,uu,uu,uu,uu,uu,uu,uu,uu,uu,uu,uu,uu,uu,uu,uu,uu,uu,uu,uu,uu,uu,uu,uu,uu,uu,uu,uu,uu,uu,uu,uu,uu,uu,uu,uu,uu,uu,uu,uu,uu,uu,uu,uu,uu,uu,uu,uu,uu,uu,uu,uu,uu,uu]→S'.take S.length=(S.set n (flat iA e2)).set n (flat iA e')→e'.size=N→b' - a' < b - a→a≤a'→b'≤b→a'≤b'→lim'≤2305843009213693952→Sort.Below ltI a' b' e'→(∀R,Sort.PermIn a' b' e' R→Sort.SortedIn ltI a' b' R→Sort.PermIn a b e2 R∧Sort.SortedIn ltI a b R)→runLp C P false (zm false [0,4,4,2,124]) (y9s26 c) S.length [Item.blk 0] fr' ⟨S',H⟩ (fin S.length [] K):=by
    intro e2 hp a' b' lim' wb' wp' e' fr' S' k1 k2 k3 k4 k5 k6 k7 k8 k9 k10
    rw [List.set_set] at k2
    exact ih (a',b',lim',wb',wp',e') fr' S' H k4 ⟨k7,by dsimp only; omega,k3,k8,by dsimp only; omega,k9,fun R r1 r2=>by
      obtain ⟨q1,q2⟩:=k10 R r1 r2
      exact hfin R (Sort.permIn_trans _ _ _ _ _ hp q1) q2⟩ k1 k2 rfl
  have Sset2:∀z:Array Int,(S.set n (flat iA z))[n]? = some (flat iA z):=fun z=>sset hS
  have hlen:∀z:Array Int,S.length=(S.set n (flat iA z)).length:=fun z=>by simp
  have hwb1:IntKind.i64.wrap ((b:Int) - 1)=((b - 1:Nat):Int):=by rw [wrap_i64 (by omega) (by omega)]; omega
  have hwl1:IntKind.i64.wrap ((lim:Int) - 1)=((lim - 1:Nat):Int):=by rw [wrap_i64 (by omega) (by omega)]; omega
  have fin2:∀(e2:Array Int),Sort.PermIn a b e e2→e2.size=N∧b≤e2.size∧Sort.Below ltI a b e2:=fun e2 hp=>⟨hp.1.trans hes,by rw [hp.1]; exact hbe,hB.perm hbe hp⟩
  cases wb with
  | false =>
    simp only [unfC (y9s1.eq_1 c),unfC (y9s2.eq_1 c),unfC (y9s3.eq_1 c),unfC (y9s4.eq_1 c),unfC (y9s5.eq_1 c),unfC (y9s6.eq_1 c),unfC (y9s7.eq_1 c),unfC (y9s20.eq_1 c),unfC (y9s21.eq_1 c),unfC (y9s22.eq_1 c),unfC (y9s23.eq_1 c),unfC (y9s24.eq_1 c),unfC (y9s25.eq_1 c),unfC (y9s26.eq_1 c),unfC (y9s27.eq_1 c),A_,simprocAttr,ne_eq,hw0,hlt,hlt0]
    refine h2.at n e a b _ _ _ hSe hes (by omega) hbN hN ?_
    rw [List.set_set]
    have p1:=Sort.breakPatterns_holds e a b hab hbe
    generalize Sort.breakPatterns e a b=e1 at p1 ⊢
    obtain ⟨s1,b1,B1⟩:=fin2 e1 p1
    simp only [unfC (y9s1.eq_1 c),unfC (y9s2.eq_1 c),unfC (y9s3.eq_1 c),unfC (y9s4.eq_1 c),unfC (y9s5.eq_1 c),unfC (y9s6.eq_1 c),unfC (y9s7.eq_1 c),unfC (y9s20.eq_1 c),unfC (y9s21.eq_1 c),unfC (y9s22.eq_1 c),unfC (y9s23.eq_1 c),unfC (y9s24.eq_1 c),unfC (y9s25.eq_1 c),unfC (y9s26.eq_1 c),unfC (y9s27.eq_1 c),A_,simprocAttr,ne_eq,hwl1]
    refine h3.at n e1 a b _ _ _ (Sset2 e1) s1 (by omega) hbN hN ?_
    obtain ⟨u1,u2⟩:=Sort.choosePivot_holds ltI e1 a b (by omega)
    generalize Sort.choosePivot ltI e1 a b=cp at u1 u2 ⊢
    obtain ⟨piv,hint⟩:=cp
    dsimp only at u1 u2 ⊢
    cases hint with
    | unknown =>
      simp only [unfC (y9s1.eq_1 c),unfC (y9s2.eq_1 c),unfC (y9s3.eq_1 c),unfC (y9s4.eq_1 c),unfC (y9s5.eq_1 c),unfC (y9s6.eq_1 c),unfC (y9s7.eq_1 c),unfC (y9s20.eq_1 c),unfC (y9s21.eq_1 c),unfC (y9s22.eq_1 c),unfC (y9s23.eq_1 c),unfC (y9s24.eq_1 c),unfC (y9s25.eq_1 c),unfC (y9s26.eq_1 c),unfC (y9s27.eq_1 c),A_,simprocAttr,ne_eq,hI]
      exact y9s19_run hC P h6 h7 h8 h9 (Sset2 e1) (hlen e1) s1 u1 u2 hbN hN (by omega) (by omega) (by omega) B1 (loop2 e1 p1) _ _ _ _ _ _ _ _ _ _ _ _ _ _ _ _ _ _ _ _ _ _ _ _ _ _ _ _ _ _ _ _ _ _ _ _ _ _ _ _ _ _ _ _ _ _ _ _ _ _ _ _ _ _ _ _ _ _ _ _ _ _ _ _ _ _ _ _ _ _ _ _ _ _ _ _ _ _ _ _ _ _ _ _ _ _ _ _ _ _ _ _ _ _ _ _ _ _ _ _ _ _ _ _ _ _ _ _ _ _ _ _ _ _ _ _ _ _ _ _ _ _ _ _ _ _
    | increasing =>
      simp only [unfC (y9s1.eq_1 c),unfC (y9s2.eq_1 c),unfC (y9s3.eq_1 c),unfC (y9s4.eq_1 c),unfC (y9s5.eq_1 c),unfC (y9s6.eq_1 c),unfC (y9s7.eq_1 c),unfC (y9s20.eq_1 c),unfC (y9s21.eq_1 c),unfC (y9s22.eq_1 c),unfC (y9s23.eq_1 c),unfC (y9s24.eq_1 c),unfC (y9s25.eq_1 c),unfC (y9s26.eq_1 c),unfC (y9s27.eq_1 c),A_,simprocAttr,ne_eq,hI]
      exact y9s19_run hC P h6 h7 h8 h9 (Sset2 e1) (hlen e1) s1 u1 u2 hbN hN (by omega) (by omega) (by omega) B1 (loop2 e1 p1) _ _ _ _ _ _ _ _ _ _ _ _ _ _ _ _ _ _ _ _ _ _ _ _ _ _ _ _ _ _ _ _ _ _ _ _ _ _ _ _ _ _ _ _ _ _ _ _ _ _ _ _ _ _ _ _ _ _ _ _ _ _ _ _ _ _ _ _ _ _ _ _ _ _ _ _ _ _ _ _ _ _ _ _ _ _ _ _ _ _ _ _ _ _ _ _ _ _ _ _ _ _ _ _ _ _ _ _ _ _ _ _ _ _ _ _ _ _ _ _ _ _ _ _ _ _
    | decreasing =>
      have hwp:IntKind.i64.wrap ((piv:Int) - (a:Int))=((piv - a:Nat):Int):=by rw [wrap_i64 (by omega) (by omega)]; omega
      have hwp2:IntKind.i64.wrap (((b - 1:Nat):Int) - ((piv - a:Nat):Int))=((b - 1 - (piv - a):Nat):Int):=by rw [wrap_i64 (by omega) (by omega)]; omega
      simp only [unfC (y9s1.eq_1 c),unfC (y9s2.eq_1 c),unfC (y9s3.eq_1 c),unfC (y9s4.eq_1 c),unfC (y9s5.eq_1 c),unfC (y9s6.eq_1 c),unfC (y9s7.eq_1 c),unfC (y9s20.eq_1 c),unfC (y9s21.eq_1 c),unfC (y9s22.eq_1 c),unfC (y9s23.eq_1 c),unfC (y9s24.eq_1 c),unfC (y9s25.eq_1 c),unfC (y9s26.eq_1 c),unfC (y9s27.eq_1 c),A_,simprocAttr,ne_eq,hI]
      refine h4.at n e1 a b _ _ _ (Sset2 e1) s1 (by omega) hbN hN ?_
      rw [List.set_set]
      have p2:=Sort.reverseRange_holds e1 a b hab b1
      generalize Sort.reverseRange e1 a b=e2 at p2 ⊢
      have p3:=Sort.permIn_trans _ _ _ _ _ p1 p2
      obtain ⟨s2,b2,B2⟩:=fin2 e2 p3
      simp only [unfC (y9s1.eq_1 c),unfC (y9s2.eq_1 c),unfC (y9s3.eq_1 c),unfC (y9s4.eq_1 c),unfC (y9s5.eq_1 c),unfC (y9s6.eq_1 c),unfC (y9s7.eq_1 c),unfC (y9s20.eq_1 c),unfC (y9s21.eq_1 c),unfC (y9s22.eq_1 c),unfC (y9s23.eq_1 c),unfC (y9s24.eq_1 c),unfC (y9s25.eq_1 c),unfC (y9s26.eq_1 c),unfC (y9s27.eq_1 c),A_,simprocAttr,ne_eq,hwb1,hwp,hwp2]
      exact y9s19_run hC P h6 h7 h8 h9 (Sset2 e2) (hlen e2) s2 (by omega) (by omega) hbN hN (by omega) (by omega) (by omega) B2 (loop2 e2 p3) _ _ _ _ _ _ _ _ _ _ _ _ _ _ _ _ _ _ _ _ _ _ _ _ _ _ _ _ _ _ _ _ _ _ _ _ _ _ _ _ _ _ _ _ _ _ _ _ _ _ _ _ _ _ _ _ _ _ _ _ _ _ _ _ _ _ _ _ _ _ _ _ _ _ _ _ _ _ _ _ _ _ _ _ _ _ _ _ _ _ _ _ _ _ _ _ _ _ _ _ _ _ _ _ _ _ _ _ _ _ _ _ _ _ _ _ _ _ _ _ _ _ _ _ _ _
  | true =>
    simp only [unfC (y9s1.eq_1 c),unfC (y9s2.eq_1 c),unfC (y9s3.eq_1 c),unfC (y9s4.eq_1 c),unfC (y9s5.eq_1 c),unfC (y9s6.eq_1 c),unfC (y9s7.eq_1 c),unfC (y9s20.eq_1 c),unfC (y9s21.eq_1 c),unfC (y9s22.eq_1 c),unfC (y9s23.eq_1 c),unfC (y9s24.eq_1 c),unfC (y9s25.eq_1 c),unfC (y9s26.eq_1 c),unfC (y9s27.eq_1 c),A_,simprocAttr,ne_eq,hw0,hlt,hlt0]
    refine h3.at n e a b _ _ _ hSe hes (by omega) hbN hN ?_
    obtain ⟨u1,u2⟩:=Sort.choosePivot_holds ltI e a b (by omega)
    generalize Sort.choosePivot ltI e a b=cp at u1 u2 ⊢
    obtain ⟨piv,hint⟩:=cp
    dsimp only at u1 u2 ⊢
    have p0:=Sort.permIn_refl e a b
    obtain ⟨piv2,e1,p1,v1,v2,hst⟩:∃(piv2:Nat) (e1:Array Int),Sort.PermIn a b e e1∧a≤piv2∧piv2 < b∧True:=⟨piv,e,p0,u1,u2,trivial⟩
    clear hst v1 v2 p1 e1 piv2
    cases hint with
    | unknown =>
      cases wp <;>
      · simp only [unfC (y9s1.eq_1 c),unfC (y9s2.eq_1 c),unfC (y9s3.eq_1 c),unfC (y9s4.eq_1 c),unfC (y9s5.eq_1 c),unfC (y9s6.eq_1 c),unfC (y9s7.eq_1 c),unfC (y9s20.eq_1 c),unfC (y9s21.eq_1 c),unfC (y9s22.eq_1 c),unfC (y9s23.eq_1 c),unfC (y9s24.eq_1 c),unfC (y9s25.eq_1 c),unfC (y9s26.eq_1 c),unfC (y9s27.eq_1 c),A_,simprocAttr,ne_eq,hI]
        exact y9s19_run hC P h6 h7 h8 h9 hSe (hlen e) hes u1 u2 hbN hN (by omega) hlim (by omega) hB (loop2 e p0) _ _ _ _ _ _ _ _ _ _ _ _ _ _ _ _ _ _ _ _ _ _ _ _ _ _ _ _ _ _ _ _ _ _ _ _ _ _ _ _ _ _ _ _ _ _ _ _ _ _ _ _ _ _ _ _ _ _ _ _ _ _ _ _ _ _ _ _ _ _ _ _ _ _ _ _ _ _ _ _ _ _ _ _ _ _ _ _ _ _ _ _ _ _ _ _ _ _ _ _ _ _ _ _ _ _ _ _ _ _ _ _ _ _ _ _ _ _ _ _ _ _ _ _ _ _
    | increasing =>
      cases wp with
      | false =>
        simp only [unfC (y9s1.eq_1 c),unfC (y9s2.eq_1 c),unfC (y9s3.eq_1 c),unfC (y9s4.eq_1 c),unfC (y9s5.eq_1 c),unfC (y9s6.eq_1 c),unfC (y9s7.eq_1 c),unfC (y9s20.eq_1 c),unfC (y9s21.eq_1 c),unfC (y9s22.eq_1 c),unfC (y9s23.eq_1 c),unfC (y9s24.eq_1 c),unfC (y9s25.eq_1 c),unfC (y9s26.eq_1 c),unfC (y9s27.eq_1 c),A_,simprocAttr,ne_eq,hI]
        exact y9s19_run hC P h6 h7 h8 h9 hSe (hlen e) hes u1 u2 hbN hN (by omega) hlim (by omega) hB (loop2 e p0) _ _ _ _ _ _ _ _ _ _ _ _ _ _ _ _ _ _ _ _ _ _ _ _ _ _ _ _ _ _ _ _ _ _ _ _ _ _ _ _ _ _ _ _ _ _ _ _ _ _ _ _ _ _ _ _ _ _ _ _ _ _ _ _ _ _ _ _ _ _ _ _ _ _ _ _ _ _ _ _ _ _ _ _ _ _ _ _ _ _ _ _ _ _ _ _ _ _ _ _ _ _ _ _ _ _ _ _ _ _ _ _ _ _ _ _ _ _ _ _ _ _ _ _ _ _
      | true =>
        simp only [unfC (y9s1.eq_1 c),unfC (y9s2.eq_1 c),unfC (y9s3.eq_1 c),unfC (y9s4.eq_1 c),unfC (y9s5.eq_1 c),unfC (y9s6.eq_1 c),unfC (y9s7.eq_1 c),unfC (y9s20.eq_1 c),unfC (y9s21.eq_1 c),unfC (y9s22.eq_1 c),unfC (y9s23.eq_1 c),unfC (y9s24.eq_1 c),unfC (y9s25.eq_1 c),unfC (y9s26.eq_1 c),unfC (y9s27.eq_1 c),A_,simprocAttr,ne_eq,hI]
        refine h5.at n e a b _ _ _ hSe hes (by omega) hbN hN ?_
        rw [List.set_set]
        obtain ⟨q1,q2⟩:=Sort.partialInsertionSort_holds Sort.swo_ltInt e a b (by omega) hbe hB
        have q1':Sort.PermIn a b e (Sort.partialInsertionSort ltI e a b).1:=q1
        have q2':(Sort.partialInsertionSort ltI e a b).2=true→Sort.SortedIn ltI a b (Sort.partialInsertionSort ltI e a b).1:=q2
        clear q1 q2
        generalize Sort.partialInsertionSort ltI e a b=pr at q1' q2' ⊢
        obtain ⟨e3,ok⟩:=pr
        dsimp only at q1' q2' ⊢
        cases ok with
        | true =>
          obtain ⟨q3,q4⟩:=hfin _ q1' (q2' rfl)
          simp only [unfC (y9s1.eq_1 c),unfC (y9s2.eq_1 c),unfC (y9s3.eq_1 c),unfC (y9s4.eq_1 c),unfC (y9s5.eq_1 c),unfC (y9s6.eq_1 c),unfC (y9s7.eq_1 c),unfC (y9s20.eq_1 c),unfC (y9s21.eq_1 c),unfC (y9s22.eq_1 c),unfC (y9s23.eq_1 c),unfC (y9s24.eq_1 c),unfC (y9s25.eq_1 c),unfC (y9s26.eq_1 c),unfC (y9s27.eq_1 c),A_,simprocAttr,ne_eq]
          exact hK _ q3 q4
        | false =>
          obtain ⟨s3,b3,B3⟩:=fin2 e3 q1'
          simp only [unfC (y9s1.eq_1 c),unfC (y9s2.eq_1 c),unfC (y9s3.eq_1 c),unfC (y9s4.eq_1 c),unfC (y9s5.eq_1 c),unfC (y9s6.eq_1 c),unfC (y9s7.eq_1 c),unfC (y9s20.eq_1 c),unfC (y9s21.eq_1 c),unfC (y9s22.eq_1 c),unfC (y9s23.eq_1 c),unfC (y9s24.eq_1 c),unfC (y9s25.eq_1 c),unfC (y9s26.eq_1 c),unfC (y9s27.eq_1 c),A_,simprocAttr,ne_eq]
          exact y9s19_run hC P h6 h7 h8 h9 (Sset2 e3) (hlen e3) s3 u1 u2 hbN hN (by omega) hlim (by omega) B3 (loop2 e3 q1') _ _ _ _ _ _ _ _ _ _ _ _ _ _ _ _ _ _ _ _ _ _ _ _ _ _ _ _ _ _ _ _ _ _ _ _ _ _ _ _ _ _ _ _ _ _ _ _ _ _ _ _ _ _ _ _ _ _ _ _ _ _ _ _ _ _ _ _ _ _ _ _ _ _ _ _ _ _ _ _ _ _ _ _ _ _ _ _ _ _ _ _ _ _ _ _ _ _ _ _ _ _ _ _ _ _ _ _ _ _ _ _ _ _ _ _ _ _ _ _ _ _ _ _ _ _
    | decreasing =>
      have hwp:IntKind.i64.wrap ((piv:Int) - (a:Int))=((piv - a:Nat):Int):=by rw [wrap_i64 (by omega) (by omega)]; omega
      have hwp2:IntKind.i64.wrap (((b - 1:Nat):Int) - ((piv - a:Nat):Int))=((b - 1 - (piv - a):Nat):Int):=by rw [wrap_i64 (by omega) (by omega)]; omega
      simp only [unfC (y9s1.eq_1 c),unfC (y9s2.eq_1 c),unfC (y9s3.eq_1 c),unfC (y9s4.eq_1 c),unfC (y9s5.eq_1 c),unfC (y9s6.eq_1 c),unfC (y9s7.eq_1 c),unfC (y9s20.eq_1 c),unfC (y9s21.eq_1 c),unfC (y9s22.eq_1 c),unfC (y9s23.eq_1 c),unfC (y9s24.eq_1 c),unfC (y9s25.eq_1 c),unfC (y9s26.eq_1 c),unfC (y9s27.eq_1 c),A_,simprocAttr,ne_eq,hI]
      refine h4.at n e a b _ _ _ hSe hes (by omega) hbN hN ?_
      rw [List.set_set]
      have p2:=Sort.reverseRange_holds e a b hab hbe
      generalize Sort.reverseRange e a b=e2 at p2 ⊢
      obtain ⟨s2,b2,B2⟩:=fin2 e2 p2
      cases wp with
      | false =>
        simp only [unfC (y9s1.eq_1 c),unfC (y9s2.eq_1 c),unfC (y9s3.eq_1 c),unfC (y9s4.eq_1 c),unfC (y9s5.eq_1 c),unfC (y9s6.eq_1 c),unfC (y9s7.eq_1 c),unfC (y9s20.eq_1 c),unfC (y9s21.eq_1 c),unfC (y9s22.eq_1 c),unfC (y9s23.eq_1 c),unfC (y9s24.eq_1 c),unfC (y9s25.eq_1 c),unfC (y9s26.eq_1 c),unfC (y9s27.eq_1 c),A_,simprocAttr,ne_eq,hwb1,hwp,hwp2]
        exact y9s19_run hC P h6 h7 h8 h9 (Sset2 e2) (hlen e2) s2 (by omega) (by omega) hbN hN (by omega) hlim (by omega) B2 (loop2 e2 p2) _ _ _ _ _ _ _ _ _ _ _ _ _ _ _ _ _ _ _ _ _ _ _ _ _ _ _ _ _ _ _ _ _ _ _ _ _ _ _ _ _ _ _ _ _ _ _ _ _ _ _ _ _ _ _ _ _ _ _ _ _ _ _ _ _ _ _ _ _ _ _ _ _ _ _ _ _ _ _ _ _ _ _ _ _ _ _ _ _ _ _ _ _ _ _ _ _ _ _ _ _ _ _ _ _ _ _ _ _ _ _ _ _ _ _ _ _ _ _ _ _ _ _ _ _ _
      | true =>
        simp only [unfC (y9s1.eq_1 c),unfC (y9s2.eq_1 c),unfC (y9s3.eq_1 c),unfC (y9s4.eq_1 c),unfC (y9s5.eq_1 c),unfC (y9s6.eq_1 c),unfC (y9s7.eq_1 c),unfC (y9s20.eq_1 c),unfC (y9s21.eq_1 c),unfC (y9s22.eq_1 c),unfC (y9s23.eq_1 c),unfC (y9s24.eq_1 c),unfC (y9s25.eq_1 c),unfC (y9s26.eq_1 c),unfC (y9s27.eq_1 c),A_,simprocAttr,ne_eq,hwb1,hwp,hwp2]
        refine h5.at n e2 a b _ _ _ (Sset2 e2) s2 (by omega) hbN hN ?_
        rw [List.set_set]
        obtain ⟨q1,q2⟩:=Sort.partialInsertionSort_holds Sort.swo_ltInt e2 a b (by omega) b2 B2
        have q1':Sort.PermIn a b e2 (Sort.partialInsertionSort ltI e2 a b).1:=q1
        have q2':(Sort.partialInsertionSort ltI e2 a b).2=true→Sort.SortedIn ltI a b (Sort.partialInsertionSort ltI e2 a b).1:=q2
        clear q1 q2
        generalize Sort.partialInsertionSort ltI e2 a b=pr at q1' q2' ⊢
        obtain ⟨e3,ok⟩:=pr
        dsimp only at q1' q2' ⊢
        have q1':=Sort.permIn_trans _ _ _ _ _ p2 q1'
        cases ok with
        | true =>
          obtain ⟨q3,q4⟩:=hfin _ q1' (q2' rfl)
          simp only [unfC (y9s1.eq_1 c),unfC (y9s2.eq_1 c),unfC (y9s3.eq_1 c),unfC (y9s4.eq_1 c),unfC (y9s5.eq_1 c),unfC (y9s6.eq_1 c),unfC (y9s7.eq_1 c),unfC (y9s20.eq_1 c),unfC (y9s21.eq_1 c),unfC (y9s22.eq_1 c),unfC (y9s23.eq_1 c),unfC (y9s24.eq_1 c),unfC (y9s25.eq_1 c),unfC (y9s26.eq_1 c),unfC (y9s27.eq_1 c),A_,simprocAttr,ne_eq]
          exact hK _ q3 q4
        | false =>
          obtain ⟨s3,b3,B3⟩:=fin2 e3 q1'
          simp only [unfC (y9s1.eq_1 c),unfC (y9s2.eq_1 c),unfC (y9s3.eq_1 c),unfC (y9s4.eq_1 c),unfC (y9s5.eq_1 c),unfC (y9s6.eq_1 c),unfC (y9s7.eq_1 c),unfC (y9s20.eq_1 c),unfC (y9s21.eq_1 c),unfC (y9s22.eq_1 c),unfC (y9s23.eq_1 c),unfC (y9s24.eq_1 c),unfC (y9s25.eq_1 c),unfC (y9s26.eq_1 c),unfC (y9s27.eq_1 c),A_,simprocAttr,ne_eq]
          exact y9s19_run hC P h6 h7 h8 h9 (Sset2 e3) (hlen e3) s3 (by omega) (by omega) hbN hN (by omega) hlim (by omega) B3 (loop2 e3 q1') _ _ _ _ _ _ _ _ _ _ _ _ _ _ _ _ _ _ _ _ _ _ _ _ _ _ _ _ _ _ _ _ _ _ _ _ _ _ _ _ _ _ _ _ _ _ _ _ _ _ _ _ _ _ _ _ _ _ _ _ _ _ _ _ _ _ _ _ _ _ _ _ _ _ _ _ _ _ _ _ _ _ _ _ _ _ _ _ _ _ _ _ _ _ _ _ _ _ _ _ _ _ _ _ _ _ _ _ _ _ _ _ _ _ _ _ _ _ _ _ _ _ _ _ _ _
end Go.AM
namespace Go.AM
open Go
set_option maxRecDepth 20000
def y10a1 (c:Nat→FuncId):LCode:=(.sq [(zs 5 (.mv true (.t 0))),(zs 6 (.mv false (.t 2))),(zs 7 (.mv false (.t 2))),(zs 8 (.conv (.int .u64) (.t 7))),(zs 9 (.call (.f (c 0)) [(.t 8)])),(zs 10 (.call (.f (c 1)) [(.t 5),(zi 0),(.t 6),(.t 9)]))])
def U_slices_Sort_int (c:Nat→FuncId):=PLift.up (@unfC _ _ (y10a1.eq_1 c))
def C_slices_Sort_int (c:Nat→FuncId):LFn:=⟨11,[],(.seq (.sq [(zs 3 (.mv false (.t 0))),(zs 4 (.len .sl (.t 3))),(zs 2 (.mv true (.t 4)))]) (y10a1 c))⟩
def y10i1:LCode:=(.sq [(zs 15 (.mv false (.t 5))),(zs 16 (.bin .add .sc (.t 15) (zi 1))),(zs 5 (.mv true (.t 16)))])
def y10i2:LCode:=(.seq (.block 1 (.seq (.tree (.rd (zs 17 (.mv false (.t 0))) 0 false (.rd (zs 18 (.mv false (.t 5))) 1 false (.rd (zs 19 (.ixa (.sl 1) (.t 17) (.t 18))) 2 false (.rd (zs 20 (.load1 false (.t 19))) 3 false (.rd (zs 21 (.mv false (.t 1))) 4 false (.rd (zs 22 (.mv false (.t 5))) 5 false (.rd (zs 23 (.ixa (.sl 1) (.t 21) (.t 22))) 6 false (.rd (zs 24 (.load1 false (.t 23))) 7 false (.rd (zs 25 (.bin .neq .sc (.t 20) (.t 24))) 8 false .done)))))))))) (.cond (.t 25) (.seq (.sq [(zs 4 (.mv true zF))]) .ret) .skip))) y10i1)
def y10i3:LCode:=(.seq (.seq (.sq [(zs 11 (.mv false (.t 5))),(zs 12 (.mv false (.t 0))),(zs 13 (.len .sl (.t 12))),(zs 14 (.bin .lss .sc (.t 11) (.t 13)))]) (.cond (.t 14) .skip (.exit 0))) y10i2)
def y10i4:LCode:=(.block 0 (.loop (zm false [0,2,3,1,20]) y10i3))
def y10i5:LCode:=(.seq (.seq (.sq [(zs 5 (.mv true (zi 0)))]) y10i4) (.seq (.sq [(zs 4 (.mv true zT))]) .ret))
def y10i6:LCode:=(.seq (.seq (.sq [(zs 6 (.mv false (.t 0))),(zs 7 (.len .sl (.t 6))),(zs 8 (.mv false (.t 1))),(zs 9 (.len .sl (.t 8))),(zs 10 (.bin .neq .sc (.t 7) (.t 9)))]) (.cond (.t 10) (.seq (.sq [(zs 4 (.mv true zF))]) .ret) .skip)) y10i5)
def U_hourglasslaw17_same:=PLift.up (zc (zc (@unfC _ _ (y10i1.eq_1)) (zc (@unfC _ _ (y10i2.eq_1)) (@unfC _ _ (y10i3.eq_1)))) (zc (@unfC _ _ (y10i4.eq_1)) (zc (@unfC _ _ (y10i5.eq_1)) (@unfC _ _ (y10i6.eq_1)))))
def C_hourglasslaw17_same:LFn:=⟨26,[.t 4],(.seq (.sq [(zs 4 (.mv true zF))]) y10i6)⟩
end Go.AM
namespace Go.AM
open Go
open AV renaming undef → uu
set_option maxRecDepth 20000
def PdqN (C:CallW) (f:FuncId):Prop:=∀S H (K:AV→St→Prop),K (.tup []) ⟨S,H⟩→C (.fn f) [.s .nilS,.s (.int .i64 (0:Nat)),.s (.int .i64 (0:Nat)),.s (.int .i64 (0:Nat))] ⟨S,H⟩ K
def SrtN (C:CallW) (f:FuncId):Prop:=∀S H (K:AV→St→Prop),K (.tup []) ⟨S,H⟩→C (.fn f) [.s .nilS,.s (.int .i64 (0:Nat)),.s (.int .i64 (0:Nat))] ⟨S,H⟩ K
def OneN (C:CallW) (f:FuncId) (r:AV):Prop:=∀S H (K:AV→St→Prop),K r ⟨S,H⟩→C (.fn f) [.s .nilS] ⟨S,H⟩ K
set_option maxHeartbeats 4000000 in
theorem insertionSort_nil {C:CallW} (hC:LeC C C) (P:Program) {c:Nat→FuncId}:∀S H (K:AV→St→Prop),K (.tup []) ⟨S,H⟩→runL C P (C_slices_insertionSortOrdered_int64 c) [.s .nilS,.s (.int .i64 (0:Nat)),.s (.int .i64 (0:Nat))] ⟨S,H⟩ K:=by
  intro S H K hK
  have hw0:IntKind.i64.wrap (((0:Nat):Int) + 1)=1:=rfl
  simp only [C_slices_insertionSortOrdered_int64,A_,simprocAttr,ne_eq,(U_slices_insertionSortOrdered_int64 _).1,hw0]
  refine loop_rule hC (α:=Unit) (fun x=>0) (fun x=>[.s .nilS,.s (.int .i64 (0:Nat)),.s (.int .i64 (0:Nat)),uu,uu,uu,.s (.int .i64 1),uu,uu,uu,uu,uu,uu,uu,uu,uu,uu,uu,uu,uu,uu,uu,uu,uu,uu,uu,uu,uu,uu,uu,uu,uu,uu,uu,uu,uu,uu,uu,uu,uu,uu,uu,uu,uu,uu,uu,uu,uu,uu]) (fun x=>S) (fun _=>H) (fun x=>True) () trivial (by simp [keep,zm]) (by rw [List.take_of_length_le (Nat.le_refl _)]) rfl (fun x _=>by simp [AV.under,AV.under.go]) ?_
  rintro x hx ih
  have hlt:((1:Int) < ((0:Nat):Int))=False:=eq_false (by omega)
  have hlt2:((1:Int) < 0)=False:=eq_false (by omega)
  simp only [C_slices_insertionSortOrdered_int64,A_,simprocAttr,ne_eq,(U_slices_insertionSortOrdered_int64 _).1,hlt,hlt2]
  exact hK
set_option maxHeartbeats 4000000 in
theorem pdqsort_nil {C:CallW} (hC:LeC C C) (P:Program) {c:Nat→FuncId} (h0:SrtN C (c 0)):∀S H (K:AV→St→Prop),K (.tup []) ⟨S,H⟩→runL C P (C_slices_pdqsortOrdered_int64 c) [.s .nilS,.s (.int .i64 (0:Nat)),.s (.int .i64 (0:Nat)),.s (.int .i64 (0:Nat))] ⟨S,H⟩ K:=by
  intro S H K hK
  simp only [C_slices_pdqsortOrdered_int64,A_,simprocAttr,ne_eq,(U_slices_pdqsortOrdered_int64 _).1]
  refine loop_rule hC (α:=Unit) (fun x=>0) (fun x=>[.s .nilS,.s (.int .i64 (0:Nat)),.s (.int .i64 (0:Nat)),.s (.int .i64 (0:Nat)),uu,uu,uu,uu,.s (.bool true),.s (.bool true),uu,uu,uu,uu,uu,uu,uu,uu,uu,uu,uu,uu,uu,uu,uu,uu,uu,uu,uu,uu,uu,uu,uu,uu,uu,uu,uu,uu,uu,uu,uu,uu,uu,uu,uu,uu,uu,uu,uu,uu,uu,uu,uu,uu,uu,uu,uu,uu,uu,uu,uu,uu,uu,uu,uu,uu,uu,uu,uu,uu,uu,uu,uu,uu,uu,uu,uu,uu,uu,uu,uu,uu,uu,uu,uu,uu,uu,uu,uu,uu,uu,uu,uu,uu,uu,uu,uu,uu,uu,uu,uu,uu,uu,uu,uu,uu,uu,uu,uu,uu,uu,uu,uu,uu,uu,uu,uu,uu,uu,uu,uu,uu,uu,uu,uu,uu,uu,uu,uu,uu,uu,uu,uu,uu]) (fun x=>S) (fun _=>H) (fun x=>True) () trivial (by simp [keep,zm]) (by rw [List.take_of_length_le (Nat.le_refl _)]) rfl (fun x _=>by simp [AV.under,AV.under.go]) ?_
  rintro x hx ih
  have hw:IntKind.i64.wrap (((0:Nat):Int) - ((0:Nat):Int))=0:=rfl
  have hlt:((0:Int)≤12)=True:=eq_true (by omega)
  simp only [C_slices_pdqsortOrdered_int64,A_,simprocAttr,ne_eq,(U_slices_pdqsortOrdered_int64 _).1,hw,hlt]
  refine h0 _ _ _ ?_
  simp only [C_slices_pdqsortOrdered_int64,A_,simprocAttr,ne_eq,(U_slices_pdqsortOrdered_int64 _).1]
  exact hK
def SortIS (C:CallW) (f:FuncId):Prop:=∀(n:Nat) (d:Array Int) (S:List (List AV)) (H:List HObj) (K:AV→St→Prop),S[n]? = some (flat iA d)→d.size≤2305843009213693952→(∀R,Sort.PermIn 0 d.size d R→Sort.SortedIn ltI 0 d.size R→K (.tup []) ⟨S.set n (flat iA R),H⟩)→C (.fn f) [.row (.stk n) 0 d.size d.size] ⟨S,H⟩ K
theorem Sort_int_spec {C:CallW} (P:Program) {c:Nat→FuncId} (h0:LenS C (c 0)) (h1:∀m,PdqS C (c 1) m):∀(n:Nat) (d:Array Int) (S:List (List AV)) (H:List HObj) (K:AV→St→Prop),S[n]? = some (flat iA d)→d.size≤2305843009213693952→(∀R,Sort.PermIn 0 d.size d R→Sort.SortedIn ltI 0 d.size R→K (.tup []) ⟨S.set n (flat iA R),H⟩)→runL C P (C_slices_Sort_int c) [.row (.stk n) 0 d.size d.size] ⟨S,H⟩ K:=by
  intro n d S H K hS hd hK
  have hc:IntKind.u64.wrap (d.size:Int)=(d.size:Int):=wu64 (by omega)
  simp only [C_slices_Sort_int,A_,simprocAttr,ne_eq,(U_slices_Sort_int _).1,convL,hc]
  refine h0 d.size (by omega) _ _ _ ?_
  have hb:=bitsLen_le (x:=d.size) (k:=62) (by omega)
  simp only [A_,simprocAttr,ne_eq,(U_slices_Sort_int _).1]
  refine h1 (d.size + 1) n d 0 d.size (Sort.bitsLen d.size) _ _ _ hS (Nat.zero_le _) (Nat.le_refl _) hd (by omega) (by omega) (.inl rfl) fun R h2 h3 => ?_
  simp only [A_,simprocAttr,ne_eq,(U_slices_Sort_int _).1]
  exact hK R h2 h3
theorem Sort_int_nil {C:CallW} (P:Program) {c:Nat→FuncId} (h0:LenS C (c 0)) (h1:PdqN C (c 1)):∀S H (K:AV→St→Prop),K (.tup []) ⟨S,H⟩→runL C P (C_slices_Sort_int c) [.s .nilS] ⟨S,H⟩ K:=by
  intro S H K hK
  have hc:IntKind.u64.wrap (0:Int)=((0:Nat):Int):=rfl
  simp only [C_slices_Sort_int,A_,simprocAttr,ne_eq,(U_slices_Sort_int _).1,convL,hc]
  refine h0 0 (by omega) _ _ _ ?_
  simp only [A_,simprocAttr,ne_eq,(U_slices_Sort_int _).1]
  refine h1 _ _ _ ?_
  simp only [A_,simprocAttr,ne_eq,(U_slices_Sort_int _).1]
  exact hK
theorem take_at {d:Array Int} {m:Nat} (h:m < d.size):d.toList.take (m + 1)=d.toList.take m ++ [d[m]!]:=by
  have h2:m < d.toList.length:=by simpa using h
  rw [List.take_succ_eq_append_getElem h2,get_bang h]
theorem flat_iA (d:Array Int):flat iA d=d.toList.map iA:=by
  unfold flat
  generalize d.toList=l
  induction l with
  | nil=>rfl
  | cons x l ih=>rw [List.flatMap_cons,ih]; rfl
theorem slr_lo {r:Ref} {N k:Nat} {kk:IntKind} (h:k < N):sliceL (.sl 1) (.row r 0 N N) (some (.s (.int kk (k:Int)))) none none=some (.row r k (N - k) (N - k)):=by
  have h0:(0:Int)≤k:=by omega
  have h1:k≤N:=by omega
  simp [sliceL,bound,h0,h1,h]
theorem clr_i {S:List (List AV)} {H:List HObj} {n k N:Nat} {e:Array Int} {et:ET} (hz:et.z = .s (.int .i64 0)) (hS:S[n]? = some (flat iA e)) (he:e.size=N) (hk:k < N):clearL et (.row (.stk n) k (N - k) (N - k)) ⟨S,H⟩=some ⟨S.set n (flat iA (e.toList.take k ++ List.replicate (N - k) 0).toArray),H⟩:=by
  have hf:(List.replicate (N - k) (AV.s (.int .i64 0)).cells).flatten=List.replicate (N - k) (AV.s (.int .i64 0)):=by
    show (List.replicate (N - k) [AV.s (.int .i64 0)]).flatten=_
    simp
  have hl:k + (List.replicate (N - k) (AV.s (.int .i64 0))).length≤(flat iA e).length:=by rw [flat_length iA_EK,List.length_replicate]; omega
  have hu:∀m j,AV.under.go m (List.replicate j (AV.s (.int .i64 0)))=true:=by
    intro m j
    induction j with
    | zero=>rfl
    | succ j ih=>exact ih
  simp only [clearL,hz,hf,writeCells,boxOf_stk,hS,Option.bind_some,mayHold]
  rw [if_pos (by rw [Bool.and_eq_true]; exact ⟨decide_eq_true hl,hu _ _⟩)]
  have hsp:splice (flat iA e) k (List.replicate (N - k) (AV.s (.int .i64 0)))=flat iA (e.toList.take k ++ List.replicate (N - k) 0).toArray:=by
    have hel:e.toList.length=N:=by simpa using he
    have hd:∀j,N≤j→(flat iA e).drop j=[]:=fun j hj=>List.drop_of_length_le (by rw [flat_length iA_EK]; omega)
    rw [flat_iA,flat_iA]
    have hd2:(e.toList.map iA).drop N=[]:=List.drop_of_length_le (by simp; omega)
    unfold splice
    split
    · rename_i v hv
      have h1:N - k=1:=by have:=congrArg List.length hv; simpa using this
      rw [h1] at hv
      cases hv
      rw [List.set_eq_take_append_cons_drop,if_pos (by simp; omega),h1,show k + 1=N by omega,hd2]
      simp [List.map_take,iA]
    · simp only [List.length_replicate]
      rw [show k + (N - k)=N by omega,hd2]
      simp [List.map_take,iA]
  rw [hsp]
  rfl
theorem freeze_i {e:ET} {S:List (List AV)} {H:List HObj} {n k N:Nat} {d:Array Int} (h1:e.c=1) (h2:e.ag=false) (hS:S[n]? = some (flat iA d)) (hk:k≤d.size):freezeL e (.row (.stk n) 0 k N) ⟨S,H⟩=some (.list .sh 1 ((d.toList.take k).map iA),⟨S.set n [],H⟩):=by
  have hl:0 + k≤(flat iA d).length:=by rw [flat_length iA_EK]; omega
  have hlook:∀l:List Int,(l.map iA).map AV.look=l.map iA:=by
    intro l; induction l with
    | nil=>rfl
    | cons x l ih=>rw [List.map_cons,List.map_cons,ih]; rfl
  have hcell:∀l:List Int,(l.map iA).all AV.isCell=true:=by
    intro l; induction l with
    | nil=>rfl
    | cons x l ih=>rw [List.map_cons,List.all_cons,ih]; rfl
  have hu:∀l:List Int,underL 0 (l.map iA)=true:=by
    intro l; induction l with
    | nil=>rfl
    | cons x l ih=>exact ih
  have hgr:∀l:List Int,groupL e l.length (l.map iA)=l.map iA:=by
    intro l; induction l with
    | nil=>rfl
    | cons x l ih=>rw [List.length_cons,groupL,h1]; simp only [List.map_cons,List.take_succ_cons,List.take_zero,List.drop_succ_cons,List.drop_zero,ih]; simp [packL,h2,iA]
  have hlen:(d.toList.take k).length=k:=by simp; omega
  have hg2:=hgr (d.toList.take k)
  rw [hlen] at hg2
  unfold freezeL
  simp only [h1,Nat.mul_one,readCells,boxOf_stk,hS,Option.bind_some]
  rw [if_pos ⟨hl,.inr (by rw [List.drop_zero,flat_iA,←List.map_take,hlook]; exact hcell _)⟩]
  simp only [Option.bind_some,List.drop_zero,flat_iA,←List.map_take,hlook,hu,hg2]
  simp
end Go.AM
namespace Go.AM
open Go
set_option maxRecDepth 20000
def y11h1:LCode:=(.seq (.sq [(zs 10 (.mv false (.t 0))),(zs 11 (.mv false (.t 3))),(zs 12 (.call (.t 10) [(.t 11)])),(zs 13 (.un .not (.t 12)))]) (.cond (.t 13) .ret .skip))
def y11h2:LCode:=(.block 1 (.seq (.sq [(zs 8 (.ent (.t 5))),(zs 9 (.ext (.t 8) 0)),(zs 3 (.mv true (.t 9)))]) y11h1))
def y11h3:LCode:=(.seq (.sq [(zs 6 (.nxt (.t 5))),(zs 7 (.ext (.t 6) 0))]) (.seq (.cond (.t 7) .skip (.exit 0)) y11h2))
def y11h4:LCode:=(.block 0 (.loop (zm false [0,1,4,1,8]) y11h3))
def U_maps_Keys_Entry_1:=PLift.up (zc (zc (@unfC _ _ (y11h1.eq_1)) (@unfC _ _ (y11h2.eq_1))) (zc (@unfC _ _ (y11h3.eq_1)) (@unfC _ _ (y11h4.eq_1))))
def C_maps_Keys_Entry_1:LFn:=⟨14,[],(.seq (.sq [(zs 4 (.load1 false (.t 1))),(zs 5 (.rng (.t 4)))]) y11h4)⟩
def C_maps_Keys_Entry (c:Nat→FuncId):LFn:=⟨4,[.t 2],(.seq (.sq [(zs 1 (.box false true (.t 0))),(zs 2 (.mv true (.c .nilF)))]) (.seq (.sq [(zs 3 (.mkfn (c 0) [] [(.t 1)])),(zs 2 (.mv true (.t 3)))]) .ret))⟩
def C_slices_AppendSeq_int64_a0:LFn:=⟨0,[],(.sq [(zs 5 (.mv true (.t 7)))])⟩
def C_slices_AppendSeq_int64_b0:LFn:=⟨0,[],(.block 1 (.sq [(zs 8 (.load1 true (.t 2))),(zs 9 (.mv false (.t 5))),(zs 10 (.bsl ⟨1,false,8,(.s (.int .i64 0))⟩ 1 [(0,(.t 9))])),(zs 11 (.app ⟨1,false,8,(.s (.int .i64 0))⟩ false (.t 8) (.t 10))),(zn (.stu (.t 2) (.t 11)))]))⟩
def y11i1 (c:Nat→FuncId) (as1 bd1:Code):LCode:=(.seq (.seq (.sq [(zs 6 (.mv false (.t 1)))]) (.block 0 (.rfun (.t 6) (c 0) #[7] as1 bd1))) (.seq (.sq [(zs 12 (.load1 true (.t 2))),(zs 4 (.mv true (.t 12)))]) .ret))
def U_slices_AppendSeq_int64 (c:Nat→FuncId) (as1 bd1:Code):=PLift.up (@unfC _ _ (y11i1.eq_1 c as1 bd1))
def C_slices_AppendSeq_int64 (c:Nat→FuncId) (as1 bd1:Code):LFn:=⟨13,[.t 4],(.seq (.sq [(zs 2 (.box true true (.t 0))),(zs 4 (.mv true (.c .nilS)))]) (y11i1 c as1 bd1))⟩
def y11j1 (c:Nat→FuncId):LCode:=(.seq (.sq [(zs 3 (.mv false (.t 0))),(zs 4 (.call (.f (c 0)) [(.c .nilS),(.t 3)])),(zs 2 (.mv true (.t 4)))]) .ret)
def U_slices_Collect_int64 (c:Nat→FuncId):=PLift.up (@unfC _ _ (y11j1.eq_1 c))
def C_slices_Collect_int64 (c:Nat→FuncId):LFn:=⟨5,[.t 2],(.seq (.sq [(zs 2 (.mv true (.c .nilS)))]) (y11j1 c))⟩
def y11k1 (c:Nat→FuncId):LCode:=(.seq (.sq [(zs 6 (.thaw 3)),(zs 7 (.call (.f (c 1)) [(.t 6)]))]) (.seq (.sq [(zs 8 (.frz ⟨1,false,8,(.s (.int .i64 0))⟩ (.t 3))),(zs 2 (.mv true (.t 8)))]) .ret))
def y11k2 (c:Nat→FuncId):LCode:=(.seq (.sq [(zs 4 (.mv false (.t 0))),(zs 5 (.call (.f (c 0)) [(.t 4)])),(zs 3 (.mv true (.t 5)))]) (y11k1 c))
def U_slices_Sorted_int64 (c:Nat→FuncId):=PLift.up (zc (@unfC _ _ (y11k1.eq_1 c)) (@unfC _ _ (y11k2.eq_1 c)))
def C_slices_Sorted_int64 (c:Nat→FuncId):LFn:=⟨9,[.t 2],(.seq (.sq [(zs 2 (.mv true (.c .nilS)))]) (y11k2 c))⟩
def y11q1:LCode:=(.seq (.sq [(zs 3 (.mv false (.t 0))),(zs 4 (.build [(.s (.int .i64 0)),(.s (.int .u8 0))] [(0,1,(.t 3))])),(zn (.store 2 (.t 2) (.t 4)))]) .ret)
def U_hourglasslaw13_at:=PLift.up (@unfC _ _ (y11q1.eq_1))
def C_hourglasslaw13_at:LFn:=⟨5,[.many 2 2],(.seq (.sq [(zs 2 (.alloc false [(.s (.int .i64 0)),(.s (.int .u8 0))]))]) y11q1)⟩
end Go.AM
namespace Go.AM
open Go
set_option maxRecDepth 20000
def TextS (C:CallW) (f:FuncId):Prop:=∀(k:Key) S H K,K (.str (textOf k)) ⟨S,H⟩→C (.fn f) [.agg (bs k.b)] ⟨S,H⟩ K
def BoolK (g:Key→Bool) (C:CallW) (f:FuncId):Prop:=∀(k:Key) S H K,K (.bool (g k)) ⟨S,H⟩→C (.fn f) [.agg (bs k.b)] ⟨S,H⟩ K
theorem text_nz (k:Key):(0:UInt8)∉textOf k:=by
  intro h
  have h2:∀(l:List UInt8),(0:UInt8)∉l.takeWhile (· != 0):=by
    intro l
    induction l with
    | nil=>simp
    | cons x l ih =>
      rw [List.takeWhile_cons]
      split
      · rename_i hx
        intro h
        rcases List.mem_cons.1 h with h | h
        · subst h; simp at hx
        · exact ih h
      · simp
  exact h2 _ h
theorem text_len (k:Key):(textOf k).length≤16:=by
  have:=(List.takeWhile_sublist (fun x:UInt8=>x != 0) (l:=k.b)).length_le
  rw [k.h] at this
  exact this
def goodK (k:Key):Bool:=decide (textOf k≠[]) && decide (padK (textOf k)=k)
theorem good_of (k:Key):goodK k=(decide ((keyOf (textOf k)).2=0) && decide ((keyOf (textOf k)).1=k)):=by
  unfold goodK keyOf
  by_cases h:textOf k=[]
  · rw [if_pos (.inl h)]; simp [h]
  · rw [if_neg (by
      rintro (h1 | h1 | h1)
      · exact h h1
      · have:=text_len k; omega
      · exact text_nz k h1)]
    simp [h]
set_option maxHeartbeats 1000000 in
theorem key_Good_spec {C:CallW} (hC:LeC C C) (P:Program) {f1 f2:FuncId} (h1:TextS C f1) (h2:OfK C f2):∀(k:Key) S H K,K (.bool (goodK k)) ⟨S,H⟩→runL C P (C_key_Good f1 f2) [.agg (bs k.b)] ⟨S,H⟩ K:=by
  intro k S H K hK
  rw [good_of] at hK
  simp only [C_key_Good,RUN_,(u_C_key_Good_k1 _ _).1,(u_C_key_Good_k2 _ _).1,FR_,simprocAttr,if_true,if_false,ite_true,ite_false,ne_eq,eq_self,OPK_,KEY_]
  refine h1 _ _ _ _ ?_
  simp only [RUN_,(u_C_key_Good_k1 _ _).1,(u_C_key_Good_k2 _ _).1,FR_,simprocAttr,if_true,if_false,ite_true,ite_false,ne_eq,eq_self,OPK_,KEY_]
  refine h2 _ _ _ _ ?_
  by_cases he:(keyOf (textOf k)).2=0
  · simp only [RUN_,(u_C_key_Good_k1 _ _).1,(u_C_key_Good_k2 _ _).1,FR_,simprocAttr,if_true,if_false,ite_true,ite_false,ne_eq,eq_self,OPK_,KEY_,he]
    rw [he] at hK
    simpa using hK
  · simp only [RUN_,(u_C_key_Good_k1 _ _).1,(u_C_key_Good_k2 _ _).1,FR_,simprocAttr,if_true,if_false,ite_true,ite_false,ne_eq,eq_self,OPK_,KEY_,he]
    simpa [he] using hK
def goodL:Bool→List UInt8→Bool
  | _,[]=>true
  | e,x :: l=>if x=0 then goodL true l else if e then false else goodL false l
def goodR (k:Key):Bool:=goodL false k.b && decide (k.b[0]'(by rw [k.h]; omega)≠0)
theorem wrap_succ {i:Nat} (h:i < 4611686018427387904):IntKind.i64.wrap ((i:Int) + 1)=((i + 1:Nat):Int):=by rw [wrap_i64 (by omega) (by omega)]; rfl
theorem u8_zero {x:UInt8}:((x.toNat:Int)=0)↔x=0:=⟨fun h=>UInt8.toNat_inj.1 (by simp; omega),fun h=>by subst h; rfl⟩
end Go.AM
namespace Go.AM
open Go
theorem find_no:∀(es:List Entry) (l:List Key) (k:Key) (i:Nat),es.map (·.key)=l.map kA→k∉l→findL (.leaf lk) (.agg (bs k.b)) es i=some none
  | [],l,k,i,_,_=>rfl
  | e :: es,[],k,i,h,_=>by simp at h
  | e :: es,a :: l,k,i,h,hk=>by
    simp only [List.map_cons,List.cons.injEq] at h
    have hne:¬(k=a):=fun e=>hk (by rw [e]; simp)
    have hq:keyEqL (.leaf lk) (.agg (bs k.b)) e.key=some false:=by
      rw [h.1]
      simp only [keyEqL,KK.fits,kA,fits_k,and_self,if_true,AV.beq,beq_kk,hne,decide_false]
    rw [findL,hq]
    exact find_no es l k (i + 1) h.2 (fun m=>hk (List.mem_cons_of_mem _ m))
theorem find_yes:∀(es:List Entry) (l:List Key) (k:Key) (i:Nat),es.map (·.key)=l.map kA→k∈l→∃j e,es[j]? = some e∧l[j]? = some k∧findL (.leaf lk) (.agg (bs k.b)) es i=some (some (i + j,e))
  | [],l,k,i,h,hk=>by cases l with
    | nil=>simp at hk
    | cons=>simp at h
  | e :: es,[],k,i,h,_=>by simp at h
  | e :: es,a :: l,k,i,h,hk=>by
    simp only [List.map_cons,List.cons.injEq] at h
    by_cases hne:k=a
    · subst hne
      have hq:keyEqL (.leaf lk) (.agg (bs k.b)) e.key=some true:=by
        rw [h.1]
        simp only [keyEqL,KK.fits,kA,fits_k,and_self,if_true,AV.beq,beq_kk,decide_true]
      refine ⟨0,e,rfl,rfl,?_⟩
      rw [findL,hq]; rfl
    · have hq:keyEqL (.leaf lk) (.agg (bs k.b)) e.key=some false:=by
        rw [h.1]
        simp only [keyEqL,KK.fits,kA,fits_k,and_self,if_true,AV.beq,beq_kk,hne,decide_false]
      have hk':k∈l:=by
        rcases List.mem_cons.1 hk with h | h
        · exact absurd h hne
        · exact h
      obtain ⟨j,e',h1,h2,h3⟩:=find_yes es l k (i + 1) h.2 hk'
      refine ⟨j + 1,e',h1,h2,?_⟩
      rw [findL,hq]
      show findL (.leaf lk) (.agg (bs k.b)) es (i + 1)=_
      rw [h3]
      congr 3; omega
def seenE (l:List Key):List Entry:=l.zipIdx.map fun p=>⟨kA p.1,.bool true,p.2⟩
theorem seenE_keys (l:List Key):(seenE l).map (·.key)=l.map kA:=by
  unfold seenE
  rw [List.map_map]
  have:((fun x:Entry=>x.key) ∘ fun p:Key×Nat=>(⟨kA p.1,.bool true,p.2⟩:Entry))=kA ∘ Prod.fst:=rfl
  rw [this,←List.map_map,List.zipIdx_map_fst]
theorem seenE_snoc (l:List Key) (k:Key):seenE (l ++ [k])=seenE l ++ [⟨kA k,.bool true,l.length⟩]:=by
  unfold seenE
  rw [List.zipIdx_append]; simp
theorem seenE_val {l:List Key} {j:Nat} {e:Entry} (h:(seenE l)[j]? = some e):e.val = .bool true:=by
  unfold seenE at h
  rw [List.getElem?_map] at h
  cases hz:l.zipIdx[j]? with
  | none=>rw [hz] at h; simp at h
  | some p=>rw [hz] at h; simp at h; rw [←h]
theorem look_seen {S:List (List AV)} {H:List HObj} {l:List Key} {k:Key} {n:Nat}:lookupL (.leaf lk) (.s (.bool false)) false (.map H.length) (.agg (bs k.b)) ⟨S,H ++ [.map (seenE l) n]⟩=some (.s (.bool (decide (k∈l)))):=by
  have hm:mapOf ⟨S,H ++ [.map (seenE l) n]⟩ (.map H.length)=some (seenE l,n):=by simp [mapOf]
  simp only [lookupL,KK.fits,fits_k,if_true,hm]
  by_cases h:k∈l
  · obtain ⟨j,e,h1,h2,h3⟩:=find_yes _ _ k 0 (seenE_keys l) h
    rw [h3]
    simp [seenE_val h1,h]
  · rw [find_no _ _ k 0 (seenE_keys l) h]
    simp [h]
theorem upd_seen {S:List (List AV)} {H:List HObj} {l:List Key} {k:Key} {n:Nat} (h:k∉l) (hn:l.length=n):updateL (.leaf lk) (.map H.length) (.agg (bs k.b)) (.s (.bool true)) ⟨S,H ++ [.map (seenE l) n]⟩=some ⟨S,H ++ [.map (seenE (l ++ [k])) (n + 1)]⟩:=by
  subst hn
  have hm:mapOf ⟨S,H ++ [.map (seenE l) l.length]⟩ (.map H.length)=some (seenE l,l.length):=by simp [mapOf]
  simp only [updateL,KK.fits,fits_k,AV.under,and_self,if_true,hm]
  rw [find_no _ _ k 0 (seenE_keys l) h]
  simp only [setMap,app_set0,List.set_cons_zero,seenE_snoc,List.length_append,List.length_cons,List.length_nil]
  rfl
def sgood (seen:List Key):List Wr→Bool
  | []=>true
  | w :: l=>if goodK w.key=false then false else if w.key∈seen then false else if 200 < w.val.length then false else if w.gone=true∧w.val≠[] then false else sgood (seen ++ [w.key]) l
end Go.AM
namespace Go.AM
open Go
set_option maxRecDepth 20000
end Go.AM
namespace Go.AM
open Go
set_option maxRecDepth 20000
end Go.AM
namespace Go.AM
open Go
set_option maxRecDepth 20000
def cmpK (a b:Key):Int:=Lib.compareBytes a.b b.b
def withinK (k a b:Key):Bool:=decide (0≤cmpK k a) && (decide (b=key0) || decide (cmpK k b < 0))
end Go.AM
namespace Go.AM
open Go
set_option maxRecDepth 20000
def cntK (k:Key):List Key→Nat
  | []=>0
  | p :: l=>(if cmpK p k≤0 then 1 else 0) + cntK k l
end Go.AM
namespace Go.AM
open Go
set_option maxRecDepth 20000
end Go.AM
namespace Go.AM
open Go
set_option maxRecDepth 20000
end Go.AM
namespace Go.AM
open Go
set_option maxRecDepth 20000
def aboveK (l:List Key) (a:Key) (i:Nat):Bool:=match l[i]? with
  | some p=>decide (0 < cmpK p a)
  | none=>true
def belowK (l:List Key) (b:Key) (i:Nat):Bool:=decide (i=0) || decide (b=key0) || (match l[i - 1]? with
  | some p=>decide (cmpK p b < 0)
  | none=>true)
def covUp (l:List Key) (a b:Key) (n:Nat):List Nat:=(List.range n).filter fun i=>aboveK l a i && belowK l b i
def coverK (l:List Key) (a b:Key):List Nat:=if b≠key0∧cmpK b a≤0 then [] else covUp l a b (l.length + 1)
end Go.AM
namespace Go.AM
open Go
set_option maxRecDepth 20000
def Steps (c:List Nat):Prop:=∀i,0 < i→(h:i < c.length)→c[i]=c[i - 1] + 1
structure WholeP (pts:List Key) (a b fr to:Key):Prop where
  good:∀k,goodR k=true→goodK k=true
  lt:cntK a pts≤pts.length
  mono:cmpK a b≤0→cntK a pts≤cntK b pts
  cons:Steps (coverK pts fr to)
  small:∀x∈coverK pts fr to,x≤pts.length
  mem:withinK a fr to=true→cntK a pts∈coverK pts fr to
end Go.AM
namespace Go.AM
open Go
end Go.AM
namespace Go.AM
open Go
open AV renaming undef → uu
set_option maxRecDepth 20000
def GoodWS (C:CallW) (f:FuncId):Prop:=∀(l:List Wr) S H (K:AV→St→Prop),l.length≤9223372036854775807→(∀G,K (.bool (sgood [] l)) ⟨S,H ++ G⟩)→C (.fn f) [lstW l] ⟨S,H⟩ K
set_option maxHeartbeats 8000000 in
theorem store_Good_spec {C:CallW} (hC:LeC C C) (P:Program) {c:Nat→FuncId} (h0:BoolK goodK C (c 0)):∀(l:List Wr) S H (K:AV→St→Prop),l.length≤9223372036854775807→(∀G,K (.bool (sgood [] l)) ⟨S,H ++ G⟩)→runL C P (C_store_Good c) [lstW l] ⟨S,H⟩ K:=by
  intro l S H K hl hK
  simp only [lstW,C_store_Good,A_,simprocAttr,ne_eq,(U_store_Good _).1]
  refine loop_rule hC (α:=Nat) (fun a=>l.length - a) (fun a=>[uu,uu,uu,.map H.length,uu,uu,uu,.list .sh 18 (l.map wA),.s (.int .i64 l.length),.s (.int .i64 a),uu,uu,uu,uu,uu,uu,uu,uu,uu,uu,uu,uu,uu,uu,uu,uu,uu,uu,uu,uu,uu,uu,uu,uu,uu,uu,uu,uu,uu,uu,uu,uu]) (fun _=>S) (fun a=>H ++ [.map (seenE ((l.take a).map Wr.key)) a]) (fun a=>a≤l.length∧sgood [] l=sgood ((l.take a).map Wr.key) (l.drop a)) 0 ⟨by simp,by simp⟩ rfl (by simp) rfl (fun a _=>by simp [AV.under,AV.under.go]) ?_
  rintro i ⟨hi,hinv⟩ ih
  by_cases h16:i < l.length
  · have hlt:((i:Int) < (l.length:Int)):=by omega
    have hw:IntKind.i64.wrap ((i:Int) + 1)=(i:Int) + 1:=wrap_i64 (by omega) (by omega)
    have htk:(l.take (i + 1)).map Wr.key=(l.take i).map Wr.key ++ [(l[i]).key]:=by rw [List.take_succ_eq_append_getElem h16,List.map_append]; rfl
    rw [List.drop_eq_getElem_cons h16,sgood,←htk] at hinv
    simp only [A_,simprocAttr,ne_eq,(U_store_Good _).1,hlt,h16]
    refine h0 _ _ _ _ ?_
    cases e1:goodK (l[i]).key with
    | false =>
      rw [if_pos e1] at hinv
      rw [hinv] at hK
      simp only [A_,simprocAttr,ne_eq,(U_store_Good _).1]
      exact hK _
    | true =>
      rw [if_neg (by simp [e1])] at hinv
      simp only [A_,simprocAttr,ne_eq,(U_store_Good _).1,look_seen]
      by_cases e2:(l[i]).key∈(l.take i).map Wr.key
      · rw [if_pos e2] at hinv
        rw [hinv] at hK
        simp only [A_,simprocAttr,ne_eq,(U_store_Good _).1,e2]
        exact hK _
      · rw [if_neg e2] at hinv
        have hup:=upd_seen (S:=S ++ [wc l[i]]) (H:=H) (n:=i) e2 (by simp; omega)
        rw [←htk] at hup
        by_cases e3:200 < (l[i]).val.length
        · have e3':((200:Int) < ((l[i]).val.length:Int)):=by omega
          rw [if_pos e3] at hinv
          rw [hinv] at hK
          simp only [A_,simprocAttr,ne_eq,(U_store_Good _).1,e2,e3']
          exact hK _
        · have e3':¬((200:Int) < ((l[i]).val.length:Int)):=by omega
          rw [if_neg e3] at hinv
          cases e4:(l[i]).gone with
          | false =>
            rw [if_neg (by simp [e4])] at hinv
            simp only [A_,simprocAttr,ne_eq,(U_store_Good _).1,e2,e3',e4,hup,hw]
            exact ih (i + 1) _ _ _ (by omega) ⟨by omega,hinv⟩ rfl (by simp) rfl
          | true =>
            by_cases e5:(l[i]).val=[]
            · rw [if_neg (by simp [e5])] at hinv
              have e5':=eq_true e5
              simp only [A_,simprocAttr,ne_eq,(U_store_Good _).1,e2,e3',e4,e5',hup,hw]
              exact ih (i + 1) _ _ _ (by omega) ⟨by omega,hinv⟩ rfl (by simp) rfl
            · rw [if_pos ⟨e4,e5⟩] at hinv
              rw [hinv] at hK
              simp only [A_,simprocAttr,ne_eq,(U_store_Good _).1,e2,e3',e4,e5]
              exact hK _
  · have hlt:¬((i:Int) < (l.length:Int)):=by omega
    rw [List.drop_of_length_le (by omega)] at hinv
    rw [hinv] at hK
    simp only [A_,simprocAttr,ne_eq,(U_store_Good _).1,hlt]
    exact hK _
end Go.AM
namespace Go.AM
open Go
set_option maxRecDepth 20000
end Go.AM
namespace Go.AM
open Go
set_option maxRecDepth 20000
end Go.AM
namespace Go.AM
open Go
set_option maxRecDepth 20000
end Go.AM
namespace Go.AM
open Go
set_option maxRecDepth 20000
end Go.AM
namespace Go.AM
open Go
set_option maxRecDepth 20000
def restLe (a b:Rd):Prop:=∀q,b=some q→∃p,a=some p∧q.length≤p.length
theorem restLe.refl (a:Rd):restLe a a:=fun q h=>⟨q,h,Nat.le_refl _⟩
theorem restLe.trans {a b c:Rd} (h:restLe a b) (h2:restLe b c):restLe a c:=fun q hq=>by
  obtain ⟨p,hp,hl⟩:=h2 q hq
  obtain ⟨p2,hp2,hl2⟩:=h p hp
  exact ⟨p2,hp2,by omega⟩
end Go.AM
namespace Go.AM
open Go
set_option maxRecDepth 20000
end Go.AM
namespace Go.AM
open Go
set_option maxRecDepth 20000
end Go.AM
namespace Go.AM
open Go
structure Rec where
  kind:Int
  id:Int
  snap:Stp
  stamp:Stp
  writes:List Wr
  yes:Bool
  parts:List Int
  deriving DecidableEq
def pI (n:Int):AV := .s (.int .i64 n)
def lstN (l:List Int):AV := .list .sh 1 (l.map pI)
def rcc (r:Rec):List AV:=[.s (.int .i64 r.kind),.s (.int .i64 r.id),.s (.int .i64 r.snap.t),u8 r.snap.n,.s (.int .i64 r.stamp.t),u8 r.stamp.n,.list .sh 18 (r.writes.map wA),.s (.bool r.yes),.list .sh 1 (r.parts.map pI)]
theorem stp_beq2 (a b:Stp):(decide (a.t=b.t) && decide (a.n=b.n))=decide (a=b):=by
  cases a; cases b; simp [Stp.mk.injEq,Bool.decide_and]
theorem ixl_pI {l:List Int} {i:Nat} (h:i < l.length):indexAddrL (.sl 1) (.list .sh 1 (l.map pI)) (.s (.int .i64 (i:Int)))=some (.rop [.s (.int .i64 l[i])]):=ixl_map h (by omega)
def zRec:Rec:=⟨0,0,⟨0,0⟩,⟨0,0⟩,[],false,[]⟩
def okR (r:Rec):Prop:=r.writes.length≤9223372036854775807∧r.parts.length≤9223372036854775807
end Go.AM
namespace Go.AM
open Go
open AV renaming undef → uu
set_option maxRecDepth 20000
def EqWS (C:CallW) (f:FuncId):Prop:=∀(a b:List Wr) S H (K:AV→St→Prop),a.length≤9223372036854775807→b.length≤9223372036854775807→K (.bool (decide (a=b))) ⟨S,H⟩→C (.fn f) [lstW a,lstW b] ⟨S,H⟩ K
def EqIS (C:CallW) (f:FuncId):Prop:=∀(a b:List Int) S H (K:AV→St→Prop),a.length≤9223372036854775807→b.length≤9223372036854775807→K (.bool (decide (a=b))) ⟨S,H⟩→C (.fn f) [lstN a,lstN b] ⟨S,H⟩ K
theorem Equal_Write_spec {C:CallW} (hC:LeC C C) (P:Program):∀(a b:List Wr) S H (K:AV→St→Prop),a.length≤9223372036854775807→b.length≤9223372036854775807→K (.bool (decide (a=b))) ⟨S,H⟩→runL C P C_slices_Equal_Write [lstW a,lstW b] ⟨S,H⟩ K:=by
  intro a b S H K ha hb hK
  by_cases hl:a.length=b.length
  case neg =>
    have hl':¬((a.length:Int)=(b.length:Int)):=by omega
    rw [decide_eq_false (fun e=>hl (by rw [e]))] at hK
    simp only [lstW,C_slices_Equal_Write,A_,simprocAttr,ne_eq,U_slices_Equal_Write.1,hl']
    exact hK
  have hl':=eq_true (show ((a.length:Int)=(b.length:Int)) by omega)
  simp only [lstW,C_slices_Equal_Write,A_,simprocAttr,ne_eq,U_slices_Equal_Write.1,hl']
  refine loop_rule hC (α:=Nat) (fun i=>a.length - i) (fun i=>[.list .sh 18 (a.map wA),.list .sh 18 (b.map wA),uu,uu,uu,uu,uu,uu,uu,uu,uu,uu,.s (.int .i64 a.length),.s (.int .i64 i),uu,uu,uu,uu,uu,uu,uu,uu,uu,uu,uu,uu]) (fun _=>S) (fun _=>H) (fun i=>i≤a.length∧decide (a=b)=decide (a.drop i=b.drop i)) 0 ⟨by simp,by simp⟩ rfl (by simp) rfl (fun a _=>by simp [AV.under,AV.under.go]) ?_
  rintro i ⟨hi,hinv⟩ ih
  by_cases h16:i < a.length
  · have hlt:((i:Int) < (a.length:Int)):=by omega
    have h16':i < b.length:=by omega
    have hw:IntKind.i64.wrap ((i:Int) + 1)=(i:Int) + 1:=wrap_i64 (by omega) (by omega)
    rw [List.drop_eq_getElem_cons h16,List.drop_eq_getElem_cons h16'] at hinv
    by_cases he:a[i]=b[i]
    · have he':=eq_true he
      rw [he] at hinv
      simp only [List.cons.injEq,true_and] at hinv
      simp only [A_,simprocAttr,ne_eq,U_slices_Equal_Write.1,hlt,h16,h16',he',hw]
      exact ih (i + 1) _ _ _ (by omega) ⟨by omega,hinv⟩ rfl (by simp) rfl
    · simp only [List.cons.injEq,he,false_and,decide_false] at hinv
      rw [hinv] at hK
      simp only [A_,simprocAttr,ne_eq,U_slices_Equal_Write.1,hlt,h16,h16',he]
      exact hK
  · have hlt:¬((i:Int) < (a.length:Int)):=by omega
    rw [List.drop_of_length_le (by omega),List.drop_of_length_le (by omega),decide_eq_true rfl] at hinv
    rw [hinv] at hK
    simp only [A_,simprocAttr,ne_eq,U_slices_Equal_Write.1,hlt]
    exact hK
theorem Equal_int_spec {C:CallW} (hC:LeC C C) (P:Program):∀(a b:List Int) S H (K:AV→St→Prop),a.length≤9223372036854775807→b.length≤9223372036854775807→K (.bool (decide (a=b))) ⟨S,H⟩→runL C P C_slices_Equal_int [lstN a,lstN b] ⟨S,H⟩ K:=by
  intro a b S H K ha hb hK
  by_cases hl:a.length=b.length
  case neg =>
    have hl':¬((a.length:Int)=(b.length:Int)):=by omega
    rw [decide_eq_false (fun e=>hl (by rw [e]))] at hK
    simp only [lstN,C_slices_Equal_int,A_,simprocAttr,ne_eq,U_slices_Equal_int.1,hl']
    exact hK
  have hl':=eq_true (show ((a.length:Int)=(b.length:Int)) by omega)
  simp only [lstN,C_slices_Equal_int,A_,simprocAttr,ne_eq,U_slices_Equal_int.1,hl']
  refine loop_rule hC (α:=Nat) (fun i=>a.length - i) (fun i=>[.list .sh 1 (a.map pI),.list .sh 1 (b.map pI),uu,uu,uu,uu,uu,uu,uu,uu,uu,uu,.s (.int .i64 a.length),.s (.int .i64 i),uu,uu,uu,uu,uu,uu,uu,uu,uu,uu,uu,uu]) (fun _=>S) (fun _=>H) (fun i=>i≤a.length∧decide (a=b)=decide (a.drop i=b.drop i)) 0 ⟨by simp,by simp⟩ rfl (by simp) rfl (fun a _=>by simp [AV.under,AV.under.go]) ?_
  rintro i ⟨hi,hinv⟩ ih
  by_cases h16:i < a.length
  · have hlt:((i:Int) < (a.length:Int)):=by omega
    have h16':i < b.length:=by omega
    have hw:IntKind.i64.wrap ((i:Int) + 1)=(i:Int) + 1:=wrap_i64 (by omega) (by omega)
    have hx1:=ixl_pI h16
    have hx2:=ixl_pI h16'
    rw [List.drop_eq_getElem_cons h16,List.drop_eq_getElem_cons h16'] at hinv
    by_cases he:a[i]=b[i]
    · have he':=eq_true he
      rw [he] at hinv
      simp only [List.cons.injEq,true_and] at hinv
      simp only [A_,simprocAttr,ne_eq,U_slices_Equal_int.1,hlt,hx1,hx2,he',hw]
      exact ih (i + 1) _ _ _ (by omega) ⟨by omega,hinv⟩ rfl (by simp) rfl
    · simp only [List.cons.injEq,he,false_and,decide_false] at hinv
      rw [hinv] at hK
      simp only [A_,simprocAttr,ne_eq,U_slices_Equal_int.1,hlt,hx1,hx2,he]
      exact hK
  · have hlt:¬((i:Int) < (a.length:Int)):=by omega
    rw [List.drop_of_length_le (by omega),List.drop_of_length_le (by omega),decide_eq_true rfl] at hinv
    rw [hinv] at hK
    simp only [A_,simprocAttr,ne_eq,U_slices_Equal_int.1,hlt]
    exact hK
def SameS (C:CallW) (f:FuncId):Prop:=∀(a b:Rec) S H (K:AV→St→Prop),okR a→okR b→K (.bool (decide (a=b))) ⟨S,H⟩→C (.fn f) [.agg (rcc a),.agg (rcc b)] ⟨S,H⟩ K
set_option maxHeartbeats 8000000 in
theorem rec_Same_spec {C:CallW} (P:Program) {c:Nat→FuncId} (h0:EqWS C (c 0)) (h1:EqIS C (c 1)):∀(a b:Rec) S H (K:AV→St→Prop),okR a→okR b→K (.bool (decide (a=b))) ⟨S,H⟩→runL C P (C_rec_Same c) [.agg (rcc a),.agg (rcc b)] ⟨S,H⟩ K:=by
  intro a b S H K ha hb hK
  by_cases e1:a.kind=b.kind
  case neg =>
    rw [decide_eq_false (fun e=>e1 (by rw [e]))] at hK
    simp only [C_rec_Same,A_,simprocAttr,ne_eq,(U_rec_Same _).1,rcc,e1]
    exact hK
  by_cases e2:a.id=b.id
  case neg =>
    rw [decide_eq_false (fun e=>e2 (by rw [e]))] at hK
    have e1:=eq_true e1
    simp only [C_rec_Same,A_,simprocAttr,ne_eq,(U_rec_Same _).1,rcc,e1,e2]
    exact hK
  by_cases e3:a.snap=b.snap
  case neg =>
    rw [decide_eq_false (fun e=>e3 (by rw [e]))] at hK
    have e1:=eq_true e1
    have e2:=eq_true e2
    simp only [C_rec_Same,A_,simprocAttr,ne_eq,(U_rec_Same _).1,rcc,e1,e2,stp_beq2,e3]
    exact hK
  by_cases e4:a.stamp=b.stamp
  case neg =>
    rw [decide_eq_false (fun e=>e4 (by rw [e]))] at hK
    have e1:=eq_true e1
    have e2:=eq_true e2
    have e3:=eq_true e3
    simp only [C_rec_Same,A_,simprocAttr,ne_eq,(U_rec_Same _).1,rcc,e1,e2,stp_beq2,e3,e4]
    exact hK
  by_cases e5:a.yes=b.yes
  case neg =>
    rw [decide_eq_false (fun e=>e5 (by rw [e]))] at hK
    have e1:=eq_true e1
    have e2:=eq_true e2
    have e3:=eq_true e3
    have e4:=eq_true e4
    simp only [C_rec_Same,A_,simprocAttr,ne_eq,(U_rec_Same _).1,rcc,e1,e2,stp_beq2,e3,e4,e5]
    exact hK
  have h0':=h0 a.writes b.writes
  have h1':=h1 a.parts b.parts
  unfold lstW at h0'
  unfold lstN at h1'
  have e1':=eq_true e1
  have e2':=eq_true e2
  have e3':=eq_true e3
  have e4':=eq_true e4
  have e5':=eq_true e5
  simp only [C_rec_Same,A_,simprocAttr,ne_eq,(U_rec_Same _).1,rcc,e1',e2',stp_beq2,e3',e4',e5']
  refine h0' _ _ _ ha.1 hb.1 ?_
  by_cases e6:a.writes=b.writes
  case neg =>
    rw [decide_eq_false (fun e=>e6 (by rw [e]))] at hK
    simp only [A_,simprocAttr,ne_eq,(U_rec_Same _).1,e6]
    exact hK
  have e6':=eq_true e6
  simp only [A_,simprocAttr,ne_eq,(U_rec_Same _).1,e6']
  refine h1' _ _ _ ha.2 hb.2 ?_
  have:decide (a.parts=b.parts)=decide (a=b):=by
    cases a; cases b
    simp only [Rec.mk.injEq] at *
    simp [e1,e2,e3,e4,e5,e6]
  rw [←this] at hK
  simp only [A_,simprocAttr,ne_eq,(U_rec_Same _).1]
  exact hK
end Go.AM
namespace Go.AM
open Go
set_option maxRecDepth 20000
theorem wrap_pred {i:Nat} (h:i≤9223372036854775807):IntKind.i64.wrap ((i:Int) - 1)=(i:Int) - 1:=wrap_i64 (by omega) (by omega)
end Go.AM
namespace Go.AM
open Go
set_option maxRecDepth 20000
end Go.AM
namespace Go.AM
open Go
set_option maxRecDepth 20000
def CmpSS (C:CallW) (f:FuncId):Prop:=∀(a b:Stp),FnS C f [.agg (stc a),.agg (stc b)] (.i (cmpS a b))
end Go.AM
namespace Go.AM
open Go
open AV renaming undef → uu
set_option maxRecDepth 20000
def gparts (prev:Int):List Int→Bool
  | []=>true
  | x :: l=>if x < 0 then false else if 8≤x then false else if x≤prev then false else gparts x l
def goodParts (l:List Int):Bool:=gparts (-1) l && decide (0 < l.length)
def prevAt (l:List Int) (i:Nat):Int:=if 0 < i then l.getD (i - 1) 0 else -1
theorem gparts_step {l:List Int} {i:Nat} (h:i < l.length):gparts (prevAt l i) (l.drop i)=if l[i] < 0 then false else if 8≤l[i] then false else if l[i]≤prevAt l i then false else gparts (prevAt l (i + 1)) (l.drop (i + 1)):=by
  rw [List.drop_eq_getElem_cons h,gparts]
  have:prevAt l (i + 1)=l[i]:=by
    unfold prevAt; rw [if_pos (by omega)]; simp [List.getD,h]
  rw [this]
def PartsS (C:CallW) (f:FuncId):Prop:=∀(l:List Int) S H (K:AV→St→Prop),l.length≤9223372036854775807→K (.bool (goodParts l)) ⟨S,H⟩→C (.fn f) [lstN l] ⟨S,H⟩ K
set_option maxHeartbeats 16000000 in
theorem rec_GoodParts_spec {C:CallW} (hC:LeC C C) (P:Program):∀(l:List Int) S H (K:AV→St→Prop),l.length≤9223372036854775807→K (.bool (goodParts l)) ⟨S,H⟩→runL C P C_rec_GoodParts [lstN l] ⟨S,H⟩ K:=by
  intro l S H K hl hK
  unfold goodParts at hK
  simp only [lstN,C_rec_GoodParts,A_,simprocAttr,ne_eq,U_rec_GoodParts.1]
  refine loop_rule hC (α:=Nat) (fun a=>l.length - a) (fun a=>[.list .sh 1 (l.map pI),uu,uu,uu,uu,.list .sh 1 (l.map pI),.s (.int .i64 l.length),.s (.int .i64 a),uu,uu,uu,uu,uu,uu,uu,uu,uu,uu,uu,uu,uu,uu,uu,uu,uu,uu,uu,uu,uu,uu,uu,uu,uu,uu,uu]) (fun _=>S) (fun a=>H) (fun a=>a≤l.length∧gparts (-1) l=gparts (prevAt l a) (l.drop a)) 0 ⟨by simp,rfl⟩ rfl (by simp) rfl (fun a _=>by simp [AV.under,AV.under.go]) ?_
  rintro i ⟨hi,hinv⟩ ih
  by_cases h16:i < l.length
  case neg =>
    have hlt:¬((i:Int) < (l.length:Int)):=by omega
    rw [hinv,List.drop_of_length_le (by omega),gparts,Bool.true_and] at hK
    by_cases h0:0 < l.length
    · have h0':((1:Int)≤(l.length:Int)):=by omega
      rw [decide_eq_true h0] at hK
      simp only [A_,simprocAttr,ne_eq,U_rec_GoodParts.1,hlt,h0']
      exact hK
    · have h0':¬((1:Int)≤(l.length:Int)):=by omega
      rw [decide_eq_false h0] at hK
      simp only [A_,simprocAttr,ne_eq,U_rec_GoodParts.1,hlt,h0']
      exact hK
  have hlt:((i:Int) < (l.length:Int)):=by omega
  have hw:IntKind.i64.wrap ((i:Int) + 1)=(i:Int) + 1:=wrap_i64 (by omega) (by omega)
  have hx:=ixl_pI h16
  rw [gparts_step h16] at hinv
  by_cases e1:l[i] < 0
  · rw [if_pos e1] at hinv
    rw [hinv,Bool.false_and] at hK
    simp only [A_,simprocAttr,ne_eq,U_rec_GoodParts.1,hlt,hx,e1]
    exact hK
  by_cases e2:8≤l[i]
  · rw [if_neg e1,if_pos e2] at hinv
    rw [hinv,Bool.false_and] at hK
    simp only [A_,simprocAttr,ne_eq,U_rec_GoodParts.1,hlt,hx,e1,e2]
    exact hK
  rw [if_neg e1,if_neg e2] at hinv
  by_cases h0:0 < i
  · have h0':((0:Int) < (i:Int)):=by omega
    have hw2:IntKind.i64.wrap ((i:Int) - 1)=((i - 1:Nat):Int):=by rw [wrap_pred (by omega)]; omega
    have hx2:=ixl_pI (l:=l) (i:=i - 1) (by omega)
    have hp:prevAt l i=l[i - 1]'(by omega):=by unfold prevAt; rw [if_pos h0]; simp [List.getD,show i - 1 < l.length by omega]
    rw [hp] at hinv
    by_cases e3:l[i]≤l[i - 1]'(by omega)
    · rw [if_pos e3] at hinv
      rw [hinv,Bool.false_and] at hK
      simp only [A_,simprocAttr,ne_eq,U_rec_GoodParts.1,hlt,hx,e1,e2,h0',hw2,hx2,e3]
      exact hK
    · rw [if_neg e3] at hinv
      simp only [A_,simprocAttr,ne_eq,U_rec_GoodParts.1,hlt,hx,e1,e2,h0',hw2,hx2,e3,hw]
      exact ih (i + 1) _ _ _ (by omega) ⟨by omega,hinv⟩ rfl (by simp) rfl
  · have h0':¬((0:Int) < (i:Int)):=by omega
    have hp:prevAt l i = -1:=by unfold prevAt; rw [if_neg h0]
    rw [hp,if_neg (by omega)] at hinv
    simp only [A_,simprocAttr,ne_eq,U_rec_GoodParts.1,hlt,hx,e1,e2,h0',hw]
    exact ih (i + 1) _ _ _ (by omega) ⟨by omega,hinv⟩ rfl (by simp) rfl
structure Ent where
  id:Int
  snap:Stp
  stamp:Stp
  writes:List Wr
def enc (e:Ent):List AV:=[.s (.int .i64 e.id),.s (.int .i64 e.snap.t),u8 e.snap.n,.s (.int .i64 e.stamp.t),u8 e.stamp.n,.list .sh 18 (e.writes.map wA)]
def mayE (e:Ent):Bool:=decide (1≤e.id) && goodS e.snap && decide (1≤e.writes.length) && decide (e.writes.length≤16) && sgood [] e.writes
def goodE (e:Ent):Bool:=mayE e && goodS e.stamp && decide (0 < cmpS e.stamp e.snap)
theorem store_Many_spec {C:CallW} (P:Program):∀(l:List Wr) S H (K:AV→St→Prop),K (.bool (decide (1≤l.length) && decide (l.length≤16))) ⟨S,H⟩→runL C P C_store_Many [lstW l] ⟨S,H⟩ K:=by
  intro l S H K hK
  by_cases h1:1≤l.length
  · have h1':((1:Int)≤(l.length:Int)):=by omega
    by_cases h2:l.length≤16
    · have h2':((l.length:Int)≤16):=by omega
      rw [decide_eq_true h1,decide_eq_true h2] at hK
      simp only [lstW,C_store_Many,A_,simprocAttr,ne_eq,U_store_Many.1,h1',h2']
      exact hK
    · have h2':¬((l.length:Int)≤16):=by omega
      rw [decide_eq_true h1,decide_eq_false h2] at hK
      simp only [lstW,C_store_Many,A_,simprocAttr,ne_eq,U_store_Many.1,h1',h2']
      exact hK
  · have h1':¬((1:Int)≤(l.length:Int)):=by omega
    rw [decide_eq_false h1,Bool.false_and] at hK
    simp only [lstW,C_store_Many,A_,simprocAttr,ne_eq,U_store_Many.1,h1']
    exact hK
def EntS (g:Ent→Bool) (C:CallW) (f:FuncId):Prop:=∀(e:Ent) S H (K:AV→St→Prop),e.writes.length≤9223372036854775807→(∀G,K (.bool (g e)) ⟨S,H ++ G⟩)→C (.fn f) [.agg (enc e)] ⟨S,H⟩ K
set_option maxHeartbeats 8000000 in
theorem prep_May_spec {C:CallW} (P:Program) {c:Nat→FuncId} (h0:∀s:Stp,FnS C (c 0) [.agg (stc s)] (.bool (goodS s))) (h1:∀l:List Wr,FnS C (c 1) [lstW l] (.bool (decide (1≤l.length) && decide (l.length≤16)))) (h2:GoodWS C (c 2)):∀(e:Ent) S H (K:AV→St→Prop),e.writes.length≤9223372036854775807→(∀G,K (.bool (mayE e)) ⟨S,H ++ G⟩)→runL C P (C_prep_May c) [.agg (enc e)] ⟨S,H⟩ K:=by
  intro e S H K hl hK
  have hK0:=hK []
  rw [List.append_nil] at hK0
  unfold mayE at hK hK0
  have h0':=h0 e.snap
  unfold stc at h0'
  have h1':=h1 e.writes
  have h2':=h2 e.writes
  unfold lstW at h1' h2'
  by_cases e1:1≤e.id
  case neg =>
    simp only [e1,decide_false,Bool.false_and] at hK0
    simp only [C_prep_May,A_,simprocAttr,ne_eq,(U_prep_May _).1,enc,e1]
    exact hK0
  simp only [C_prep_May,A_,simprocAttr,ne_eq,(U_prep_May _).1,enc,e1]
  refine h0' _ _ _ ?_
  cases e2:goodS e.snap with
  | false =>
    simp only [e1,e2,decide_true,Bool.true_and,Bool.false_and] at hK0
    simp only [A_,simprocAttr,ne_eq,(U_prep_May _).1]
    exact hK0
  | true =>
  simp only [A_,simprocAttr,ne_eq,(U_prep_May _).1]
  refine h1' _ _ _ ?_
  cases e3:(decide (1≤e.writes.length) && decide (e.writes.length≤16)) with
  | false =>
    simp only [e1,e2,decide_true,Bool.true_and,e3,Bool.false_and] at hK0
    simp only [A_,simprocAttr,ne_eq,(U_prep_May _).1]
    exact hK0
  | true =>
  simp only [A_,simprocAttr,ne_eq,(U_prep_May _).1]
  refine h2' _ _ _ hl fun G => ?_
  have:=hK G
  simp only [e1,e2,decide_true,Bool.true_and,e3] at this
  simp only [A_,simprocAttr,ne_eq,(U_prep_May _).1]
  exact this
set_option maxHeartbeats 8000000 in
theorem prep_Good_spec {C:CallW} (P:Program) {c:Nat→FuncId} (h0:EntS mayE C (c 0)) (h1:∀s:Stp,FnS C (c 1) [.agg (stc s)] (.bool (goodS s))) (h2:CmpSS C (c 2)):∀(e:Ent) S H (K:AV→St→Prop),e.writes.length≤9223372036854775807→(∀G,K (.bool (goodE e)) ⟨S,H ++ G⟩)→runL C P (C_prep_Good c) [.agg (enc e)] ⟨S,H⟩ K:=by
  intro e S H K hl hK
  have h0':=h0 e
  unfold enc at h0'
  have h1':=h1 e.stamp
  unfold stc at h1'
  have h2':=h2 e.stamp e.snap
  unfold stc at h2'
  unfold goodE at hK
  simp only [C_prep_Good,A_,simprocAttr,ne_eq,(U_prep_Good _).1,enc]
  refine h0' _ _ _ hl fun G => ?_
  have hKG:=hK G
  cases e1:mayE e with
  | false =>
    simp only [e1,Bool.false_and] at hKG
    simp only [A_,simprocAttr,ne_eq,(U_prep_Good _).1]
    exact hKG
  | true =>
  simp only [A_,simprocAttr,ne_eq,(U_prep_Good _).1]
  refine h1' _ _ _ ?_
  cases e2:goodS e.stamp with
  | false =>
    simp only [e1,e2,Bool.and_false,Bool.false_and] at hKG
    simp only [A_,simprocAttr,ne_eq,(U_prep_Good _).1]
    exact hKG
  | true =>
  simp only [A_,simprocAttr,ne_eq,(U_prep_Good _).1]
  refine h2' _ _ _ ?_
  simp only [e1,e2,Bool.and_true,Bool.true_and] at hKG
  by_cases e3:0 < cmpS e.stamp e.snap
  · simp only [e3,decide_true] at hKG
    simp only [A_,simprocAttr,ne_eq,(U_prep_Good _).1,e3]
    exact hKG
  · simp only [e3,decide_false] at hKG
    simp only [A_,simprocAttr,ne_eq,(U_prep_Good _).1,e3]
    exact hKG
def WkK (K:AV→St→Prop):AV→St→Prop:=fun v s=>∃b,(b=v∨WkL [v.sh] [b])∧K b s
end Go.AM
namespace Go.AM
open Go
set_option maxRecDepth 20000
set_option linter.unusedSectionVars false
structure KeyK {κ:Type} [DecidableEq κ] (kk:KK) (kf:κ→AV):Prop where
  fits:∀a,kk.fits (kf a)=true
  eq:∀a b,AV.beq (kf a) (kf b)=decide (a=b)
theorem keyK_int:KeyK (.one (.int .i64)) iA:=⟨fun a=>rfl,fun a b=>by simp [iA,AV.beq]⟩
section
variable {κ β:Type} [DecidableEq κ] {kk:KK} {kf:κ→AV} {kp:β→κ} {vf:β→AV}
def RelM (kf:κ→AV) (kp:β→κ) (vf:β→AV) (es:List Entry) (l:List β):Prop:=es.map (fun e=>(e.key,e.val))=l.map fun x=>(kf (kp x),vf x)
structure MapG (kf:κ→AV) (kp:β→κ) (vf:β→AV) (es:List Entry) (c:Nat) (l:List β):Prop where
  rel:RelM kf kp vf es l
  nd:(es.map (·.born)).Nodup
  lt:∀e∈es,e.born < c
def getB (kp:β→κ) (l:List β) (k:κ):Option β:=l.find? fun x=>decide (kp x=k)
theorem find_none (hK:KeyK kk kf):∀{es:List Entry} {l:List β} {k:κ} {i:Nat},RelM kf kp vf es l→(∀x∈l,kp x≠k)→findL kk (kf k) es i=some none
  | [],[],k,i,_,_=>rfl
  | [],x :: l,k,i,h,_=>by cases h
  | e :: es,[],k,i,h,_=>by cases h
  | e :: es,x :: l,k,i,h,hk=>by
    unfold RelM at h
    simp only [List.map_cons,List.cons.injEq,Prod.mk.injEq] at h
    have hq:keyEqL kk (kf k) e.key=some false:=by
      rw [h.1.1]
      simp only [keyEqL,hK.fits,and_self,if_true,hK.eq]
      rw [decide_eq_false fun e=>hk x List.mem_cons_self e.symm]
    rw [findL,hq]
    exact find_none hK h.2 fun y hy=>hk y (List.mem_cons_of_mem _ hy)
theorem find_some (hK:KeyK kk kf):∀{es:List Entry} {l:List β} {k:κ} {x:β} {i:Nat},RelM kf kp vf es l→getB kp l k=some x→∃j e,j < l.length∧l[j]? = some x∧es[j]? = some e∧e.val=vf x∧kp x=k∧(∀m,m < j→∀y,l[m]? = some y→kp y≠k)∧findL kk (kf k) es i=some (some (i + j,e))
  | [],[],k,x,i,_,h2=>by cases h2
  | [],y :: l,k,x,i,h,_=>by cases h
  | e :: es,[],k,x,i,h,_=>by cases h
  | e :: es,y :: l,k,x,i,h,h2=>by
    unfold RelM at h
    simp only [List.map_cons,List.cons.injEq,Prod.mk.injEq] at h
    unfold getB at h2
    rw [List.find?_cons] at h2
    by_cases hy:kp y=k
    · rw [decide_eq_true hy] at h2
      have hxy:y=x:=by simpa using h2
      subst hxy
      have hq:keyEqL kk (kf k) e.key=some true:=by
        rw [h.1.1]
        simp only [keyEqL,hK.fits,and_self,if_true,hK.eq]
        rw [decide_eq_true hy.symm]
      refine ⟨0,e,by simp,rfl,rfl,h.1.2,hy,fun m hm=>by omega,?_⟩
      rw [findL,hq]; rfl
    · rw [decide_eq_false hy] at h2
      have hq:keyEqL kk (kf k) e.key=some false:=by
        rw [h.1.1]
        simp only [keyEqL,hK.fits,and_self,if_true,hK.eq]
        rw [decide_eq_false fun e=>hy e.symm]
      obtain ⟨j,e',q1,q2,q3,q4,q5,q6,q7⟩:=find_some hK (i:=i + 1) h.2 h2
      refine ⟨j + 1,e',by simpa using q1,by simpa using q2,by simpa using q3,q4,q5,fun m hm z hz => ?_,?_⟩
      · cases m with
        | zero => have : y = z := by simpa using hz
                  subst this; exact hy
        | succ m=>exact q6 m (by omega) z (by simpa using hz)
      · rw [findL,hq]
        show findL kk (kf k) es (i + 1)=_
        rw [q7]
        congr 3; omega
theorem getB_none {l:List β} {k:κ} (h:getB kp l k=none):∀x∈l,kp x≠k:=by
  unfold getB at h
  rw [List.find?_eq_none] at h
  exact fun x hx e=>h x hx (decide_eq_true e)
def lookR (vf:β→AV) (z:AV) (ok:Bool):Option β→AV
  | some x=>if ok then .tup [vf x,.bool true] else vf x
  | none=>if ok then .tup [z,.bool false] else z
theorem map_look (hK:KeyK kk kf) {S:List (List AV)} {H:List HObj} {h c:Nat} {es:List Entry} {l:List β} {k:κ} {z:AV} {ok:Bool} (hm:H[h]? = some (.map es c)) (hR:RelM kf kp vf es l):lookupL kk z ok (.map h) (kf k) ⟨S,H⟩=some (lookR vf z ok (getB kp l k)):=by
  have hmo:mapOf ⟨S,H⟩ (.map h)=some (es,c):=by simp [mapOf,hm]
  simp only [lookupL,hK.fits,if_true,hmo]
  cases hg:getB kp l k with
  | none=>rw [find_none hK hR (getB_none hg)]; rfl
  | some x =>
    obtain ⟨j,e,q1,q2,q3,q4,q5,q6,q7⟩:=find_some hK (i:=0) hR hg
    rw [q7]
    simp only [q4,lookR]
theorem map_new (hK:KeyK kk kf) {S:List (List AV)} {H:List HObj} {h c:Nat} {es:List Entry} {l:List β} {k:κ} {v:AV} (hm:H[h]? = some (.map es c)) (hR:RelM kf kp vf es l) (hk:∀x∈l,kp x≠k) (hv:AV.under 0 v=true):updateL kk (.map h) (kf k) v ⟨S,H⟩=some ⟨S,H.set h (.map (es ++ [⟨kf k,v,c⟩]) (c + 1))⟩:=by
  have hmo:mapOf ⟨S,H⟩ (.map h)=some (es,c):=by simp [mapOf,hm]
  simp only [updateL,hK.fits,hv,and_self,if_true,hmo,find_none hK hR hk]
  rfl
theorem MapG.new {es:List Entry} {c:Nat} {l:List β} {x:β} (h:MapG kf kp vf es c l):MapG kf kp vf (es ++ [⟨kf (kp x),vf x,c⟩]) (c + 1) (l ++ [x]):=by
  obtain ⟨h1,h2,h3⟩:=h
  refine ⟨?_,?_,?_⟩
  · unfold RelM at h1 ⊢
    rw [List.map_append,List.map_append,h1]; rfl
  · rw [List.map_append,List.nodup_append]
    refine ⟨h2,by simp,fun a ha b hb => ?_⟩
    simp only [List.map_cons,List.map_nil,List.mem_singleton] at hb
    rw [List.mem_map] at ha
    obtain ⟨e,he,rfl⟩:=ha
    have:=h3 e he
    omega
  · intro e he
    rcases List.mem_append.1 he with he | he
    · have:=h3 e he; omega
    · simp only [List.mem_singleton] at he; subst he; exact Nat.lt_succ_self _
theorem MapG.del (hK:KeyK kk kf) {H:List HObj} {h c:Nat} {es:List Entry} {l:List β} {k:κ} (hm:H[h]? = some (.map es c)) (hG:MapG kf kp vf es c l) (hnd:(l.map kp).Nodup):∃es',(∀S:List (List AV),deleteL kk (.map h) (kf k) ⟨S,H⟩=some ⟨S,H.set h (.map es' c)⟩)∧MapG kf kp vf es' c (l.filter fun x=>decide (kp x≠k)):=by
  have hmo:∀S,mapOf ⟨S,H⟩ (.map h)=some (es,c):=fun S=>by simp [mapOf,hm]
  obtain ⟨hR,h2,h3⟩:=hG
  simp only [deleteL,hK.fits,if_true,hmo]
  cases hg:getB kp l k with
  | none =>
    refine ⟨es,fun S=>by rw [find_none hK hR (getB_none hg)]; rfl,?_,h2,h3⟩
    rw [List.filter_eq_self.2 fun x hx=>decide_eq_true (getB_none hg x hx)]
    exact hR
  | some x =>
    obtain ⟨j,e,q1,q2,q3,q4,q5,q6,q7⟩:=find_some hK (i:=0) hR hg
    refine ⟨es.eraseIdx j,fun S=>by rw [q7,Nat.zero_add]; rfl,?_,?_,?_⟩
    · have hf:l.filter (fun x=>decide (kp x≠k))=l.eraseIdx j:=by
        rw [List.eraseIdx_eq_take_drop_succ]
        have hl:l=l.take j ++ l[j] :: l.drop (j + 1):=by rw [List.getElem_cons_drop,List.take_append_drop]
        have hx:l[j]=x:=by rw [List.getElem?_eq_getElem q1] at q2; exact Option.some.inj q2
        conv=>lhs; rw [hl]
        rw [List.filter_append,List.filter_cons,hx,if_neg (by simp [q5])]
        congr 1
        · refine List.filter_eq_self.2 fun y hy=>decide_eq_true ?_
          obtain ⟨m,hm,rfl⟩:=List.mem_iff_getElem.1 hy
          rw [List.length_take] at hm
          rw [List.getElem_take]
          exact q6 m (by omega) _ (List.getElem?_eq_getElem (by omega))
        · refine List.filter_eq_self.2 fun y hy=>decide_eq_true ?_
          obtain ⟨m,hm,rfl⟩:=List.mem_iff_getElem.1 hy
          rw [List.length_drop] at hm
          rw [List.getElem_drop]
          intro hy2
          have h5:=List.pairwise_iff_getElem.1 hnd j (j + 1 + m) (by simpa using q1) (by simp; omega) (by omega)
          rw [List.getElem_map,List.getElem_map,hx,q5,hy2] at h5
          exact h5 rfl
      rw [hf]
      unfold RelM at hR ⊢
      rw [List.eraseIdx_eq_take_drop_succ,List.eraseIdx_eq_take_drop_succ,List.map_append,List.map_append,List.map_take,List.map_take,List.map_drop,List.map_drop,hR]
    · exact h2.sublist ((List.eraseIdx_sublist es j).map _)
    · exact fun e he=>h3 e ((List.eraseIdx_sublist es j).mem he)
end
end Go.AM
namespace Go.AM
open Go
set_option maxRecDepth 20000
def entA (e:Ent):AV := .agg (enc e)
def holV (p:Key×Int):AV:=iA p.2
structure TabH (H:List HObj) (h h1 h2:Nat) (tb:List Ent) (hl:List (Key×Int)):Prop where
  n1:h≠h1
  n2:h≠h2
  n12:h1≠h2
  at0:H[h]? = some (.cells [.map h1,.map h2])
  at1:∃es c,H[h1]? = some (.map es c)∧MapG iA Ent.id entA es c tb
  at2:∃es c,H[h2]? = some (.map es c)∧MapG kA Prod.fst holV es c hl
def Ext (H H':List HObj) (h1 h2:Nat):Prop:=H.length≤H'.length∧∀i,i < H.length→i≠h1→i≠h2→H'[i]? = H[i]?
theorem Ext.refl {H:List HObj} {h1 h2:Nat}:Ext H H h1 h2:=⟨Nat.le_refl _,fun _ _ _ _=>rfl⟩
theorem Ext.trans {H H' H'':List HObj} {h1 h2:Nat} (a:Ext H H' h1 h2) (b:Ext H' H'' h1 h2):Ext H H'' h1 h2 :=
  ⟨Nat.le_trans a.1 b.1,fun i hi e1 e2=>(b.2 i (Nat.lt_of_lt_of_le hi a.1) e1 e2).trans (a.2 i hi e1 e2)⟩
theorem Ext.app {H G:List HObj} {h1 h2:Nat}:Ext H (H ++ G) h1 h2:=⟨by simp,fun i hi _ _=>List.getElem?_append_left hi⟩
theorem hlt {H:List HObj} {h:Nat} {o:HObj} (e:H[h]? = some o):h < H.length:=(List.getElem?_eq_some_iff.1 e).1
theorem happ {H G:List HObj} {h:Nat} {o:HObj} (e:H[h]? = some o):(H ++ G)[h]? = some o:=by rw [List.getElem?_append_left (hlt e)]; exact e
theorem hset {H:List HObj} {h j:Nat} {o o':HObj} (hne:j≠h) (e:H[h]? = some o):(H.set j o')[h]? = some o:=by rw [List.getElem?_set_ne hne]; exact e
theorem hself {H:List HObj} {h:Nat} {o o':HObj} (e:H[h]? = some o):(H.set h o')[h]? = some o':=by rw [List.getElem?_set_self (hlt e)]
theorem TabH.app {H G:List HObj} {h h1 h2:Nat} {tb:List Ent} {hl:List (Key×Int)} (t:TabH H h h1 h2 tb hl):TabH (H ++ G) h h1 h2 tb hl:=by
  obtain ⟨n1,n2,n12,a0,⟨e1,c1,a1,g1⟩,⟨e2,c2,a2,g2⟩⟩:=t
  exact ⟨n1,n2,n12,happ a0,⟨e1,c1,happ a1,g1⟩,⟨e2,c2,happ a2,g2⟩⟩
end Go.AM
namespace Go.AM
open Go
set_option maxRecDepth 20000
theorem getB_mem {β κ:Type} [DecidableEq κ] {kp:β→κ} {l:List β} {k:κ} {x:β} (h:getB kp l k=some x):x∈l∧kp x=k:=⟨List.mem_of_find?_eq_some h,by have:=List.find?_some h; exact of_decide_eq_true this⟩
end Go.AM
namespace Go.AM
open Go
set_option maxRecDepth 20000
end Go.AM
namespace Go.AM
open Go
set_option maxRecDepth 20000
end Go.AM
namespace Go.AM
open Go
set_option maxRecDepth 20000
section
variable {C:CallW} {P:Program} {rd:Bool}
theorem opS_rng {d x l is fr S H K h es c} (hx:seL fr x = .map h) (hm:H[h]? = some (.map es c)):opS C P rd d (.rng x) l is fr ⟨S,H⟩ K=runS C P rd l is (putA d (.ptr (.heap H.length) 0) fr) ⟨S,H ++ [.iter ⟨some h,c,[],c⟩]⟩ K:=by
  have hmo:mapOf ⟨S,H⟩ (.map h)=some (es,c):=by simp [mapOf,hm]
  unfold opS
  rw [show mayb (.rng x) fr=false from rfl]
  simp only [mb]
  unfold doL
  simp only [settledL,settleL,hx,hmo]
theorem opS_nxt {d x l is fr S H K n h es c} {it:IterA} (hx:seL fr x = .ptr (.heap n) 0) (hi:H[n]? = some (.iter it)) (hp:it.map=some h) (hm:H[h]? = some (.map es c)):opS C P rd d (.nxt x) l is fr ⟨S,H⟩ K=((it.seen=[]∨es=[]∨∃e∈es,e.born < it.stepped)∧((∀e∈es,e.born∈it.seen∨it.since≤e.born)→runS C P rd l is (putA d (.tup [.bool false]) fr) ⟨S,H⟩ K)∧∀e∈es,e.born∉it.seen→runS C P rd l is (putA d (.tup [.bool true,e.key,e.val]) fr) ⟨S,H.set n (.iter { it with seen:=it.seen ++ [e.born],stepped:=c })⟩ K):=by
  have hmo:mapOf ⟨S,H⟩ (.map h)=some (es,c):=by simp [mapOf,hm]
  have hio:iterOf ⟨S,H⟩ (.ptr (.heap n) 0)=some (n,it):=by simp [iterOf,hi]
  unfold opS
  rw [show mayb (.nxt x) fr=false from rfl]
  simp only [mb]
  unfold doL
  simp only [settledL,settleL,hx,hio,hp,hmo]
  rfl
theorem opS_ent {d x l is fr S H K n h es c b} {e:Entry} {it:IterA} (hx:seL fr x = .ptr (.heap n) 0) (hi:H[n]? = some (.iter it)) (hp:it.map=some h) (hm:H[h]? = some (.map es c)) (hb:it.seen.getLast? = some b) (hc:c=it.stepped) (hf:es.find? (fun e=>e.born == b)=some e):opS C P rd d (.ent x) l is fr ⟨S,H⟩ K=runS C P rd l is (putA d (.tup [e.key,e.val]) fr) ⟨S,H⟩ K:=by
  have hmo:mapOf ⟨S,H⟩ (.map h)=some (es,c):=by simp [mapOf,hm]
  have hio:iterOf ⟨S,H⟩ (.ptr (.heap n) 0)=some (n,it):=by simp [iterOf,hi]
  unfold opS
  rw [show mayb (.ent x) fr=false from rfl]
  simp only [mb]
  unfold doL
  simp only [settledL,settleL,hx,hio,hp,hb,hmo,hf]
  simp [hc]
end
theorem born_find {es:List Entry} (hnd:(es.map (·.born)).Nodup) {e:Entry} (he:e∈es):es.find? (fun x=>x.born == e.born)=some e:=by
  induction es with
  | nil=>cases he
  | cons y es ih =>
    rw [List.map_cons,List.nodup_cons] at hnd
    rw [List.find?_cons]
    rcases List.mem_cons.1 he with rfl | he
    · simp
    · have:(y.born == e.born)=false:=by
        cases hq:(y.born == e.born) with
        | false=>rfl
        | true =>
          have hq:y.born=e.born:=by simpa using hq
          exact absurd (List.mem_map.2 ⟨e,he,hq.symm⟩) hnd.1
      rw [this]
      exact ih hnd.2 he
end Go.AM
namespace Go.AM
open Go
open AV renaming undef → uu
set_option maxRecDepth 20000
def KeysS (C:CallW) (f g:FuncId):Prop:=∀(hm:Nat) S H (K:AV→St→Prop),K (.fn (.func g) [] [.ptr (.heap H.length) 0]) ⟨S,H ++ [.cells [.map hm]]⟩→C (.fn f) [.map hm] ⟨S,H⟩ K
theorem maps_Keys_spec {C:CallW} (P:Program) {c:Nat→FuncId}:∀(hm:Nat) S H (K:AV→St→Prop),K (.fn (.func (c 0)) [] [.ptr (.heap H.length) 0]) ⟨S,H ++ [.cells [.map hm]]⟩→runL C P (C_maps_Keys_Entry c) [.map hm] ⟨S,H⟩ K:=by
  intro hm S H K hK
  simp only [C_maps_Keys_Entry,A_,simprocAttr,ne_eq]
  exact hK
def KeysItS (C:CallW) (g:FuncId):Prop:=∀(G:List Int→List HObj) (N h bx hm c:Nat) (es:List Entry) (x:Entry→Int) (S:List (List AV)) (K:AV→St→Prop),(∀acc,(G acc).length=N)→(∀acc,(G acc)[bx]? = some (.cells [.map hm]))→(∀acc,(G acc)[hm]? = some (.map es c))→(es.map (·.born)).Nodup→(∀e∈es,e.born < c)→(∀e∈es,e.key=iA (x e)) →
  (∀acc v it S' (K':AV→St→Prop),acc.length < es.length→K' (.bool true) ⟨S',G (acc ++ [v]) ++ [it]⟩→C (.yield h) [.s (.int .i64 v)] ⟨S',G acc ++ [it]⟩ K')→(∀acc it,acc.Perm (es.map x)→K (.tup []) ⟨S,G acc ++ [it]⟩)→C (.fn g) [.yield h,.ptr (.heap bx) 0] ⟨S,G []⟩ K
set_option maxHeartbeats 4000000 in
theorem maps_Keys1_spec {C:CallW} (hC:LeC C C) (P:Program):∀(G:List Int→List HObj) (N h bx hm c:Nat) (es:List Entry) (x:Entry→Int) (S:List (List AV)) (K:AV→St→Prop),(∀acc,(G acc).length=N)→(∀acc,(G acc)[bx]? = some (.cells [.map hm]))→(∀acc,(G acc)[hm]? = some (.map es c))→(es.map (·.born)).Nodup→(∀e∈es,e.born < c)→(∀e∈es,e.key=iA (x e)) →
  (∀acc v it S' (K':AV→St→Prop),acc.length < es.length→K' (.bool true) ⟨S',G (acc ++ [v]) ++ [it]⟩→C (.yield h) [.s (.int .i64 v)] ⟨S',G acc ++ [it]⟩ K')→(∀acc it,acc.Perm (es.map x)→K (.tup []) ⟨S,G acc ++ [it]⟩)→runL C P C_maps_Keys_Entry_1 [.yield h,.ptr (.heap bx) 0] ⟨S,G []⟩ K:=by
  intro G N h bx hm c es x S K hN hbx hmp hnd hlt hkey hy hK
  have b0:=hbx []
  simp only [C_maps_Keys_Entry_1,A_,simprocAttr,ne_eq,U_maps_Keys_Entry_1.1,b0]
  rw [opS_rng rfl (hmp [])]
  simp only [C_maps_Keys_Entry_1,A_,simprocAttr,ne_eq,U_maps_Keys_Entry_1.1,hN]
  refine loop_rule hC (α:=List Entry) (fun vs=>es.length - vs.length) (fun vs=>[.yield h,uu,uu,uu,uu,.ptr (.heap N) 0,uu,uu,uu,uu,uu,uu,uu,uu]) (fun _=>S) (fun vs=>G (vs.map x) ++ [.iter ⟨some hm,c,vs.map (·.born),c⟩]) (fun vs=>(vs.map (·.born)).Nodup∧∀e∈vs,e∈es) [] ⟨.nil,fun e h=>by cases h⟩ (by simp [keep,zm]) (by rw [List.take_of_length_le (Nat.le_refl _)]) rfl (fun a _=>by simp [AV.under,AV.under.go]) ?_
  rintro vs ⟨hvn,hvs⟩ ih
  have hit:(G (vs.map x) ++ [.iter ⟨some hm,c,vs.map (·.born),c⟩])[N]? = some (.iter ⟨some hm,c,vs.map (·.born),c⟩):=by rw [←hN (vs.map x)]; simp
  have hmm:∀o,(G (vs.map x) ++ [o])[hm]? = some (.map es c):=fun o=>happ (hmp _)
  simp only [C_maps_Keys_Entry_1,A_,simprocAttr,ne_eq,U_maps_Keys_Entry_1.1]
  rw [opS_nxt rfl hit rfl (hmm _)]
  refine ⟨?_,fun hall => ?_,fun e he hns => ?_⟩
  · cases vs with
    | nil=>exact .inl rfl
    | cons v vs=>exact .inr (.inr ⟨v,hvs v List.mem_cons_self,hlt v (hvs v List.mem_cons_self)⟩)
  · have hp:vs.Perm es:=by
      refine (List.perm_ext_iff_of_nodup ?_ ?_).2 fun e=>⟨hvs e,fun he => ?_⟩
      · exact List.Pairwise.of_map (·.born) (fun a b h e=>h (by rw [e])) hvn
      · exact List.Pairwise.of_map (·.born) (fun a b h e=>h (by rw [e])) hnd
      · rcases hall e he with h1 | h1
        · rw [List.mem_map] at h1
          obtain ⟨v,hv,hb⟩:=h1
          have q1:=born_find hnd (hvs v hv)
          have q2:=born_find hnd he
          rw [hb,q2] at q1
          rw [Option.some.inj q1]; exact hv
        · have:=hlt e he
          exact absurd h1 (by dsimp only; omega)
    simp only [C_maps_Keys_Entry_1,A_,simprocAttr,ne_eq,U_maps_Keys_Entry_1.1]
    exact hK _ _ (hp.map x)
  · have hk:=hkey e he
    have hset:∀o o':HObj,(G (vs.map x) ++ [o]).set N o'=G (vs.map x) ++ [o']:=fun o o'=>by rw [←hN (vs.map x)]; simp
    have hit2:(G (vs.map x) ++ [.iter ⟨some hm,c,vs.map (·.born) ++ [e.born],c⟩])[N]? = some (.iter ⟨some hm,c,vs.map (·.born) ++ [e.born],c⟩):=by rw [←hN (vs.map x)]; simp
    dsimp only
    rw [hset]
    have hll:vs.length < es.length:=by
      have hb:((vs ++ [e]).map (·.born)).Nodup:=by
        rw [List.map_append,List.nodup_append]
        exact ⟨hvn,by simp,fun a ha b hb=>by
          have:b=e.born:=by simpa using hb
          subst this
          exact fun e2=>hns (e2▸ha)⟩
      have hnd2:(vs ++ [e]).Nodup:=List.Pairwise.of_map (·.born) (fun a b h e=>h (by rw [e])) hb
      have h1:(vs ++ [e]).length≤es.length:=hnd2.length_le_of_subset fun z hz=>by
        rcases List.mem_append.1 hz with hz | hz
        · exact hvs z hz
        · have:z=e:=by simpa using hz
          rw [this]; exact he
      simp at h1; omega
    simp only [C_maps_Keys_Entry_1,A_,simprocAttr,ne_eq,U_maps_Keys_Entry_1.1]
    rw [opS_ent rfl hit2 rfl (hmm _) (b:=e.born) (by simp) rfl (born_find hnd he),hk]
    simp only [iA,C_maps_Keys_Entry_1,A_,simprocAttr,ne_eq,U_maps_Keys_Entry_1.1]
    refine hy _ (x e) _ _ _ (by simpa using hll) ?_
    simp only [C_maps_Keys_Entry_1,A_,simprocAttr,ne_eq,U_maps_Keys_Entry_1.1]
    refine ih (vs ++ [e]) _ _ _ (by simp; omega) ⟨?_,fun z hz => ?_⟩ (by simp [keep,zm]) (by rw [List.take_of_length_le (Nat.le_refl _)]) (by simp)
    · rw [List.map_append,List.nodup_append]
      exact ⟨hvn,by simp,fun a ha b hb=>by
        have:b=e.born:=by simpa using hb
        subst this
        exact fun e2=>hns (e2▸ha)⟩
    · rcases List.mem_append.1 hz with hz | hz
      · exact hvs z hz
      · have:z=e:=by simpa using hz
        rw [this]; exact he
end Go.AM
namespace Go.AM
open Go
open AV renaming undef → uu
set_option maxRecDepth 20000
def slZ (l:List Int):AV:=if l=[] then .s .nilS else .list .uniq 1 (l.map iA)
theorem slZ_under {n:Nat} {l:List Int}:AV.under n (slZ l)=true:=by unfold slZ; split <;> rfl
theorem slZ_nil:slZ [] = .s .nilS:=rfl
theorem slZ_snoc (l:List Int) (v:Int):slZ (l ++ [v]) = .list .uniq 1 ((l ++ [v]).map iA):=if_neg (by simp)
theorem app_slZ {e:ET} {l:List Int} {v:Int} {σ:St} (h1:e.c=1) (h2:e.bytes=8) (hl:l.length≤1000000):appendL e false (slZ l) (.list .full 1 [.s (.int .i64 v)]) σ=some (.list .uniq 1 ((l ++ [v]).map iA),σ):=by
  have h:=app_slG (e:=e) (es:=l.map iA) (a:=iA v) (σ:=σ) rfl (by rw [List.length_map,h2]; omega)
  rw [h1] at h
  have e1:slG 1 (l.map iA)=slZ l:=by unfold slG slZ; by_cases e:l=[] <;> simp [e]
  rw [e1] at h
  rw [show (AV.s (.int .i64 v))=iA v from rfl,h]
  unfold slG
  rw [if_neg (by simp),List.map_append]
  rfl
theorem load_kept {S:List (List AV)} {H G:List HObj} {l:List Int}:load1L true (.ptr (.heap H.length) 0) ⟨S,H ++ .cells [slZ l] :: G⟩=some (slZ l,⟨S,H ++ .cells [(slZ l).left] :: G⟩):=by
  have hb:boxOf ⟨S,H ++ .cells [slZ l] :: G⟩ (.heap H.length)=some [slZ l]:=by simp [boxOf]
  simp only [load1L,hb,Option.bind_some]
  simp [splice,setBox]
theorem store_kept {S:List (List AV)} {H G:List HObj} {a:AV} {es:List AV}:storeUL (.ptr (.heap H.length) 0) (.list .uniq 1 es) ⟨S,H ++ .cells [a] :: G⟩=some ⟨S,H ++ .cells [.list .uniq 1 es] :: G⟩:=by
  have hb:boxOf ⟨S,H ++ .cells [a] :: G⟩ (.heap H.length)=some [a]:=by simp [boxOf]
  simp [storeUL,AV.fit,AV.kept,AV.isCell,hb,writeCells,mayHold,AV.under.go,AV.under,splice,setBox]
structure MapI (H:List HObj) (bx hm c:Nat) (es:List Entry) (x:Entry→Int):Prop where
  box:H[bx]? = some (.cells [.map hm])
  map:H[hm]? = some (.map es c)
  nd:(es.map (·.born)).Nodup
  lt:∀e∈es,e.born < c
  key:∀e∈es,e.key=iA (x e)
  len:es.length≤1000000
def AppSeqS (C:CallW) (f g:FuncId):Prop:=∀(bx hm c:Nat) (es:List Entry) (x:Entry→Int) S H (K:AV→St→Prop),MapI H bx hm c es x→(∀acc G,acc.Perm (es.map x)→K (slZ acc) ⟨S,H ++ G⟩)→C (.fn f) [.s .nilS,.fn (.func g) [] [.ptr (.heap bx) 0]] ⟨S,H⟩ K
set_option maxHeartbeats 4000000 in
theorem AppendSeq_spec {C:CallW} (hC:LeC C C) (P:Program) {c:Nat→FuncId} {as1 bd1:Code} {g:FuncId} (h1:KeysItS C g) (hB:hasBody P g=true) (hR:RoundOK C P (c 0) as1 bd1 (C_slices_AppendSeq_int64_a0).code (C_slices_AppendSeq_int64_b0).code):∀(bx hm cc:Nat) (es:List Entry) (x:Entry→Int) S H (K:AV→St→Prop),MapI H bx hm cc es x→(∀acc G,acc.Perm (es.map x)→K (slZ acc) ⟨S,H ++ G⟩)→runL C P (C_slices_AppendSeq_int64 c as1 bd1) [.s .nilS,.fn (.func g) [] [.ptr (.heap bx) 0]] ⟨S,H⟩ K:=by
  intro bx hm cc es x S H K hM hK
  have st:=fun {S:List (List AV)} {a:AV} {es':List AV} {G:List HObj}=>store_kept (S:=S) (H:=H) (G:=G) (a:=a) (es:=es')
  simp only [C_slices_AppendSeq_int64,A_,simprocAttr,ne_eq,(U_slices_AppendSeq_int64 _ _ _).1,hB]
  refine h1 (fun acc=>H ++ [.cells [slZ acc],.loop ⟨c 0,[.s .nilS,.fn (.func g) [] [.ptr (.heap bx) 0],.ptr (.heap H.length) 0,.undef,.s .nilS,.undef,.fn (.func g) [] [.ptr (.heap bx) 0],uu,uu,uu,uu,uu,uu],[7],as1,bd1,true,none⟩]) (H.length + 2) (H.length + 1) bx hm cc es x S _ (fun acc=>by simp) (fun acc=>happ hM.box) (fun acc=>happ hM.map) hM.nd hM.lt hM.key (fun acc v it S' K' hacc hK' => ?_) (fun acc it hp => ?_)
  · have ha:∀(e:ET) (σ:St),e.c=1→e.bytes=8→appendL e false (slZ acc) (.list .full 1 [.s (.int .i64 v)]) σ=some (.list .uniq 1 ((acc ++ [v]).map iA),σ):=fun e σ h1 h2=>app_slZ h1 h2 (by have:=hM.len; omega)
    rw [List.append_assoc]
    refine hR _ _ _ _ _ _ _ (by rw [app_get]; rfl) rfl ?_
    simp only [C_slices_AppendSeq_int64_a0,C_slices_AppendSeq_int64_b0,A_,simprocAttr,ne_eq,(U_slices_AppendSeq_int64 _ _ _).1,load_kept,ha,st]
    rw [List.append_assoc,slZ_snoc] at hK'
    exact hK'
  · rw [List.append_assoc]
    simp only [C_slices_AppendSeq_int64,A_,simprocAttr,ne_eq,(U_slices_AppendSeq_int64 _ _ _).1,load_kept]
    exact ⟨slZ_under,hK _ _ hp⟩
theorem Collect_spec {C:CallW} (P:Program) {c:Nat→FuncId} {g:FuncId} (h0:AppSeqS C (c 0) g):∀(bx hm cc:Nat) (es:List Entry) (x:Entry→Int) S H (K:AV→St→Prop),MapI H bx hm cc es x→(∀acc G,acc.Perm (es.map x)→K (slZ acc) ⟨S,H ++ G⟩)→runL C P (C_slices_Collect_int64 c) [.fn (.func g) [] [.ptr (.heap bx) 0]] ⟨S,H⟩ K:=by
  intro bx hm cc es x S H K hM hK
  simp only [C_slices_Collect_int64,A_,simprocAttr,ne_eq,(U_slices_Collect_int64 _).1]
  refine h0 bx hm cc es x S H _ hM fun acc G hp => ?_
  simp only [C_slices_Collect_int64,A_,simprocAttr,ne_eq,(U_slices_Collect_int64 _).1]
  exact ⟨slZ_under,hK _ _ hp⟩
def CollS (C:CallW) (f g:FuncId):Prop:=∀(bx hm c:Nat) (es:List Entry) (x:Entry→Int) S H (K:AV→St→Prop),MapI H bx hm c es x→(∀acc G,acc.Perm (es.map x)→K (slZ acc) ⟨S,H ++ G⟩)→C (.fn f) [.fn (.func g) [] [.ptr (.heap bx) 0]] ⟨S,H⟩ K
def arrZ (l:List Int):Array Int:=l.toArray
theorem arrZ_flat (l:List Int):flat iA (arrZ l)=l.map iA:=by rw [flat_iA]; rfl
theorem thaw_slZ {fr:Fr} {t:Nat} {l:List Int} {S:List (List AV)} {H:List HObj} (hne:l≠[]) (h:fr.getD t .undef=slZ l):AM.thaw fr (.tmp t) ⟨S,H⟩=some (.row (.stk S.length) 0 l.length l.length,fr.set t (.row (.stk S.length) 0 l.length l.length),⟨S ++ [flat iA (arrZ l)],H⟩):=by
  have hc:∀l:List Int,(l.map iA).flatMap AV.cells=l.map iA:=by
    intro l
    induction l with
    | nil=>rfl
    | cons x l ih=>rw [List.map_cons,List.flatMap_cons,ih]; rfl
  have hu:∀(m:Nat) (l:List Int),underL m (l.map iA)=true:=by
    intro m l
    induction l with
    | nil=>rfl
    | cons x l ih=>exact ih
  unfold AM.thaw
  simp only [h,slZ,if_neg hne]
  rw [if_neg (by simp [hne]),hc,newBox_stk (hu _ _),arrZ_flat]
  simp
theorem thaw_slZ0 {fr:Fr} {t:Nat} {σ:St} (h:fr.getD t .undef=slZ []):AM.thaw fr (.tmp t) σ=some (.s .nilS,fr,σ):=by
  unfold AM.thaw
  simp only [h]
  rfl
theorem sorted_le {R:Array Int} {n:Nat} (hn:R.size=n) (h:Sort.SortedIn ltI 0 n R):R.toList.Pairwise (·≤·):=by
  rw [List.pairwise_iff_getElem]
  intro i j hi hj hij
  have hj':j < R.size:=by simpa using hj
  have hi':i < R.size:=by simpa using hi
  have:=h i j (Nat.zero_le _) hij (by omega)
  rw [get_bang hj',get_bang hi'] at this
  unfold ltI at this
  have:=of_decide_eq_false this
  omega
theorem sorted_perm {R:Array Int} {l:List Int} (h:Sort.PermIn 0 l.length (arrZ l) R):R.toList.Perm l:=by
  have hsz:R.size=l.length:=h.1
  have:=h.2.2
  rw [←hsz,Array.extract_size,hsz] at this
  rw [show l.length=(arrZ l).size from rfl,Array.extract_size] at this
  exact this
def lstZ (l:List Int):AV := .list .sh 1 (l.map iA)
def SortedS (C:CallW) (f g:FuncId):Prop:=∀(bx hm c:Nat) (es:List Entry) (x:Entry→Int) S H (K:AV→St→Prop),MapI H bx hm c es x→(∀ids G,ids.Perm (es.map x)→ids.Pairwise (·≤·)→K (lstZ ids) ⟨S,H ++ G⟩)→C (.fn f) [.fn (.func g) [] [.ptr (.heap bx) 0]] ⟨S,H⟩ K
set_option maxHeartbeats 4000000 in
theorem Sorted_spec {C:CallW} (P:Program) {c:Nat→FuncId} {g:FuncId} (h0:CollS C (c 0) g) (h1:SortIS C (c 1)) (h1n:OneN C (c 1) (.tup [])):∀(bx hm cc:Nat) (es:List Entry) (x:Entry→Int) S H (K:AV→St→Prop),MapI H bx hm cc es x→(∀ids G,ids.Perm (es.map x)→ids.Pairwise (·≤·)→K (lstZ ids) ⟨S,H ++ G⟩)→runL C P (C_slices_Sorted_int64 c) [.fn (.func g) [] [.ptr (.heap bx) 0]] ⟨S,H⟩ (WkK K):=by
  intro bx hm cc es x S H K hM hK
  have hfz:∀(e:ET) (σ:St),freezeL e (.s .nilS) σ=some (.s .nilS,σ):=fun _ _=>rfl
  simp only [C_slices_Sorted_int64,A_,simprocAttr,ne_eq,(U_slices_Sorted_int64 _).1]
  refine h0 bx hm cc es x S H _ hM fun acc G hp => ?_
  have hal:acc.length≤1000000:=by have:=hp.length_eq; rw [List.length_map] at this; have:=hM.len; omega
  by_cases e:acc=[]
  · subst e
    simp only [C_slices_Sorted_int64,A_,simprocAttr,ne_eq,(U_slices_Sorted_int64 _).1]
    rw [thaw_slZ0 rfl]
    simp only [C_slices_Sorted_int64,A_,simprocAttr,ne_eq,(U_slices_Sorted_int64 _).1]
    refine h1n _ _ _ ?_
    simp only [C_slices_Sorted_int64,A_,simprocAttr,ne_eq,(U_slices_Sorted_int64 _).1,slZ_nil,hfz]
    exact ⟨_,.inr (.nilS (by omega) .nil),hK [] G hp .nil⟩
  · simp only [C_slices_Sorted_int64,A_,simprocAttr,ne_eq,(U_slices_Sorted_int64 _).1]
    rw [thaw_slZ e rfl]
    have hS1:(S ++ [flat iA (arrZ acc)])[S.length]? = some (flat iA (arrZ acc)):=by simp
    simp only [C_slices_Sorted_int64,A_,simprocAttr,ne_eq,(U_slices_Sorted_int64 _).1,List.set_cons_zero,List.set_cons_succ]
    refine h1 S.length (arrZ acc) _ _ _ hS1 (by show acc.length≤_; omega) fun R hR1 hR2 => ?_
    have hRs:R.size=acc.length:=hR1.1
    have hset:∀x y:List AV,(S ++ [x]).set S.length y=S ++ [y]:=fun x y=>by simp
    rw [hset]
    have hS2:(S ++ [flat iA R])[S.length]? = some (flat iA R):=by simp
    have hf:∀{e:ET},e.c=1→e.ag=false→freezeL e (.row (.stk S.length) 0 acc.length acc.length) ⟨S ++ [flat iA R],H ++ G⟩=_:=fun h1 h2=>freeze_i (H:=H ++ G) h1 h2 hS2 (by omega)
    simp only [hset] at hf
    rw [List.take_of_length_le (by simp [hRs])] at hf
    simp only [C_slices_Sorted_int64,A_,simprocAttr,ne_eq,(U_slices_Sorted_int64 _).1,hf]
    exact ⟨_,.inl rfl,hK R.toList G ((sorted_perm hR1).trans hp) (sorted_le hRs hR2)⟩
end Go.AM
namespace Go.AM
open Go
set_option maxRecDepth 20000
set_option linter.unusedSectionVars false
section
variable {κ β:Type} [DecidableEq κ] {kk:KK} {kf:κ→AV} {kp:β→κ} {vf:β→AV}
def putB (kp:β→κ) (l:List β) (x:β):List β:=match getB kp l (kp x) with
  | some _=>l.map fun y=>if kp y=kp x then x else y
  | none=>l ++ [x]
theorem MapG.upd (hK:KeyK kk kf) {H:List HObj} {h c:Nat} {es:List Entry} {l:List β} {x:β} (hm:H[h]? = some (.map es c)) (hG:MapG kf kp vf es c l) (hnd:(l.map kp).Nodup) (hv:AV.under 0 (vf x)=true):∃es' c',(∀S:List (List AV),updateL kk (.map h) (kf (kp x)) (vf x) ⟨S,H⟩=some ⟨S,H.set h (.map es' c')⟩)∧MapG kf kp vf es' c' (putB kp l x):=by
  unfold putB
  cases hg:getB kp l (kp x) with
  | none =>
    exact ⟨_,_,fun S=>map_new hK (S:=S) (v:=vf x) hm hG.rel (getB_none hg) hv,hG.new⟩
  | some y =>
    have hmo:∀S,mapOf ⟨S,H⟩ (.map h)=some (es,c):=fun S=>by simp [mapOf,hm]
    obtain ⟨hR,h2,h3⟩:=hG
    obtain ⟨j,e,q1,q2,q3,q4,q5,q6,q7⟩:=find_some hK (i:=0) hR hg
    have hlen:es.length=l.length:=by have:=congrArg List.length hR; simpa [RelM] using this
    have hb:(es.set j { e with key:=kf (kp x),val:=vf x }).map (·.born)=es.map (·.born):=by
      refine List.ext_getElem? fun i => ?_
      rw [List.getElem?_map,List.getElem?_map]
      by_cases hi:j=i
      · subst hi
        rw [List.getElem?_set_self (by omega),q3]; rfl
      · rw [List.getElem?_set_ne hi]
    refine ⟨es.set j { e with key:=kf (kp x),val:=vf x },c,fun S => ?_,?_,?_,?_⟩
    · simp only [updateL,hK.fits,hv,and_self,if_true,hmo,q7,Nat.zero_add]; rfl
    · unfold RelM at hR ⊢
      refine List.ext_getElem? fun i => ?_
      have hRi:=congrArg (fun z:List (AV×AV)=>z[i]?) hR
      rw [List.getElem?_map,List.getElem?_map] at hRi ⊢
      rw [List.getElem?_map]
      by_cases hi:j=i
      · subst hi
        rw [List.getElem?_set_self (by omega),q2]
        simp only [Option.map_some,if_pos q5]
      · rw [List.getElem?_set_ne hi,hRi]
        cases hli:l[i]? with
        | none=>rfl
        | some z =>
          have:kp z≠kp x:=by
            intro hz
            have hi2:i < l.length:=(List.getElem?_eq_some_iff.1 hli).1
            have:=List.pairwise_iff_getElem.1 hnd
            have e1:(l.map kp)[j]'(by simpa using q1)=kp x:=by rw [List.getElem_map]; rw [List.getElem?_eq_getElem q1] at q2; rw [Option.some.inj q2]; exact q5
            have e2:(l.map kp)[i]'(by simpa using hi2)=kp x:=by rw [List.getElem_map]; rw [List.getElem?_eq_getElem hi2] at hli; rw [Option.some.inj hli]; exact hz
            rcases Nat.lt_or_gt_of_ne hi with h | h
            · exact this j i (by simpa using q1) (by simpa using hi2) h (e1.trans e2.symm)
            · exact this i j (by simpa using hi2) (by simpa using q1) h (e2.trans e1.symm)
          simp only [Option.map_some,if_neg this]
    · rw [hb]; exact h2
    · intro e' he
      obtain ⟨i,hi,rfl⟩:=List.mem_iff_getElem.1 he
      have hb2:=congrArg (fun z:List Nat=>z[i]?) hb
      rw [List.getElem?_map,List.getElem?_map,List.getElem?_eq_getElem hi] at hb2
      rw [List.length_set] at hi
      rw [List.getElem?_eq_getElem hi] at hb2
      have hb3:((es.set j { e with key:=kf (kp x),val:=vf x })[i]'(by simpa using hi)).born=es[i].born:=Option.some.inj hb2
      rw [hb3]
      exact h3 _ (List.getElem_mem hi)
theorem putB_same {l:List β} {x:β} (hnd:(l.map kp).Nodup) (hx:x∈l):putB kp l x=l:=by
  have hself:∃y,getB kp l (kp x)=some y:=by
    cases hg:getB kp l (kp x) with
    | none=>exact absurd rfl (getB_none hg x hx)
    | some y=>exact ⟨y,rfl⟩
  obtain ⟨y,hy⟩:=hself
  unfold putB
  rw [hy]
  have:∀m:List β,(m.map kp).Nodup→x∈m→(m.map fun y=>if kp y=kp x then x else y)=m:=by
    intro m
    induction m with
    | nil=>intro _ h; cases h
    | cons z m ih =>
      intro hn hm
      rw [List.map_cons,List.nodup_cons] at hn
      rw [List.map_cons]
      rcases List.mem_cons.1 hm with rfl | hm
      · rw [if_pos rfl]
        congr 1
        refine (List.map_congr_left fun a ha => ?_).trans (List.map_id m)
        rw [if_neg fun e:kp a=kp x=>hn.1 (e▸List.mem_map_of_mem ha)]; rfl
      · rw [ih hn.2 hm,if_neg fun e:kp z=kp x=>hn.1 (e▸List.mem_map_of_mem hm)]
  exact this l hnd hx
theorem putB_new {l:List β} {x:β} (h:∀y∈l,kp y≠kp x):putB kp l x=l ++ [x]:=by
  unfold putB
  have:getB kp l (kp x)=none:=by
    unfold getB
    rw [List.find?_eq_none]
    exact fun y hy=>by simpa using h y hy
  rw [this]
end
end Go.AM
namespace Go.AM
open Go
set_option maxRecDepth 20000
def y20a1:LCode:=(.seq (.sq [(zs 1 (.mkmap none)),(zs 2 (.build [(.s .nilM)] [(0,1,(.t 1))])),(zs 3 (.box false true (.t 2))),(zs 0 (.mv true (.t 3)))]) .ret)
def U_coord_New:=PLift.up (@unfC _ _ (y20a1.eq_1))
def C_coord_New:LFn:=⟨4,[.t 0],(.seq (.sq [(zs 0 (.mv true (.c .nilP)))]) y20a1)⟩
def y20b1:LCode:=(.seq (.sq [(zs 5 (.bsl ⟨1,false,8,(.s (.int .i64 0))⟩ 0 [])),(zs 6 (.mv false (.t 0))),(zs 7 (.app ⟨1,false,8,(.s (.int .i64 0))⟩ false (.t 5) (.t 6))),(zs 2 (.mv true (.t 7)))]) .ret)
def y20b2:LCode:=(.seq (.seq (.sq [(zs 3 (.mv false (.t 0))),(zs 4 (.bin .eql (.ref 1) (.t 3) (.c .nilS)))]) (.cond (.t 4) (.seq (.sq [(zs 2 (.mv true (.c .nilS)))]) .ret) .skip)) y20b1)
def U_slices_Clone_int:=PLift.up (zc (@unfC _ _ (y20b1.eq_1)) (@unfC _ _ (y20b2.eq_1)))
def C_slices_Clone_int:LFn:=⟨8,[.t 2],(.seq (.sq [(zs 2 (.mv true (.c .nilS)))]) y20b2)⟩
def y20c1:LCode:=(.sq [(zs 14 (.mv false (.t 0))),(zs 15 (.nilc (.t 14))),(zs 16 (.shift 0 (.t 15))),(zs 17 (.load1 false (.t 16))),(zs 18 (.mv false (.t 1))),(zs 19 (.mv false (.t 2))),(zn (.upd (.one (.int .i64)) (.t 17) (.t 18) (.t 19)))])
def U_coord_Coord_add:=PLift.up (@unfC _ _ (y20c1.eq_1))
def C_coord_Coord_add:LFn:=⟨20,[],(.seq (.sq [(zs 6 (.mv false (.t 2))),(zs 7 (.mv false (.t 2))),(zs 8 (.mkmap none)),(zs 9 (.mkmap none)),(zs 10 (.nilc (.t 6))),(zs 11 (.shift 3 (.t 10))),(zn (.store 1 (.t 11) (.t 8))),(zs 12 (.nilc (.t 7))),(zs 13 (.shift 8 (.t 12))),(zn (.store 1 (.t 13) (.t 9)))]) y20c1)⟩
def y20d1 (c:Nat→FuncId):LCode:=(.seq (.tree (.rd (zs 28 (.mv false (.t 0))) 0 true (.rd (zs 29 (.mv false (.t 1))) 1 true (.rd (zs 30 (.loadA 2 (.t 6))) 2 true (.mv (zs 31 (.mv true (.t 3))) [] (.mv (zs 32 (.call (.f (c 2)) [(.t 31)])) [3] (.rd (zs 33 (.build [(.s (.int .i64 0)),(.s (.int .u8 0)),(.s .nilS),(.s .nilM),(.s (.bool false)),(.s (.bool false)),(.s (.int .i64 0)),(.s (.int .u8 0)),(.s .nilM)] [(0,2,(.t 30)),(2,1,(.t 32))])) 5 false (.mv (zs 34 (.box false true (.t 33))) [2,3,4,5] (.mv (zs 35 (.call (.f (c 3)) [(.t 28),(.t 29),(.t 34)])) [0,1,2,3,4,5,6] .done .stop) .stop)) .stop) .stop))))) (.seq (.sq [(zs 8 (.mv true (zi 0)))]) .ret))
def y20d2 (c:Nat→FuncId):LCode:=(.seq (.seq (.sq [(zs 21 (.mv false (.t 0))),(zs 22 (.nilc (.t 21))),(zs 23 (.shift 0 (.t 22))),(zs 24 (.load1 false (.t 23))),(zs 25 (.mv false (.t 1))),(zs 26 (.look (.one (.int .i64)) (.s .nilP) false (.t 24) (.t 25))),(zs 27 (.bin .neq (.ref 0) (.t 26) (.c .nilP)))]) (.cond (.t 27) (.seq (.sq [(zs 8 (.mv true (zi 5)))]) .ret) .skip)) (y20d1 c))
def y20d3 (c:Nat→FuncId):LCode:=(.seq (.seq (.sq [(zs 9 (.mv false (.t 1))),(zs 10 (.bin .lss .sc (.t 9) (zi 1))),(zs 11 (.mv false (.t 10))),(zf 12 11 (.loadA 2 (.t 6))),(zf 13 11 (.call (.f (c 0)) [(.t 12)])),(zf 14 11 (.un .not (.t 13))),(zs 15 (.pick (.t 11) zT (.t 14))),(zs 16 (.mv false (.t 15))),(zf 17 16 (.mv false (.t 3))),(zf 18 16 (.call (.f (c 1)) [(.t 17)])),(zf 19 16 (.un .not (.t 18))),(zs 20 (.pick (.t 16) zT (.t 19)))]) (.cond (.t 20) (.seq (.sq [(zs 8 (.mv true (zi 1)))]) .ret) .skip)) (y20d2 c))
def U_coord_Coord_Begin (c:Nat→FuncId):=PLift.up (zc (@unfC _ _ (y20d1.eq_1 c)) (zc (@unfC _ _ (y20d2.eq_1 c)) (@unfC _ _ (y20d3.eq_1 c))))
def C_coord_Coord_Begin (c:Nat→FuncId):LFn:=⟨36,[.t 8],(.seq (.sq [(zs 6 (.box false false (.t 2))),(zs 8 (.mv true (zi 0)))]) (y20d3 c))⟩
def y20e1:LCode:=(.cond (.t 16) (.seq (.sq [(zs 17 (.mv false (.t 5))),(zs 4 (.mv true (.t 17)))]) .ret) .skip)
def y20e2:LCode:=(.seq (.sq [(zs 11 (.mv false (.t 1))),(zs 12 (.mv false (.t 0))),(zs 13 (.mv false (.t 5))),(zs 14 (.ixa (.sl 1) (.t 12) (.t 13))),(zs 15 (.load1 false (.t 14))),(zs 16 (.bin .eql .sc (.t 11) (.t 15)))]) y20e1)
def y20e3:LCode:=(.seq (.block 1 (.seq (.sq [(zs 10 (.mv false (.t 8))),(zs 5 (.mv true (.t 10)))]) y20e2)) (.sq [(zs 18 (.bin .add .sc (.t 8) (zi 1))),(zs 8 (.mv false (.t 18)))]))
def y20e4:LCode:=(.block 0 (.loop (zm false [0,2,5,2,10]) (.seq (.sq [(zs 9 (.bin .lss .sc (.t 8) (.t 7)))]) (.seq (.cond (.t 9) .skip (.exit 0)) y20e3))))
def y20e5:LCode:=(.seq (.seq (.sq [(zs 6 (.mv false (.t 0))),(zs 7 (.len .sl (.t 6))),(zs 8 (.mv false (zi 0)))]) y20e4) (.seq (.sq [(zs 4 (.mv true (.c (.int .i64 (-1)))))]) .ret))
def U_slices_Index_int:=PLift.up (zc (zc (@unfC _ _ (y20e1.eq_1)) (@unfC _ _ (y20e2.eq_1))) (zc (@unfC _ _ (y20e3.eq_1)) (zc (@unfC _ _ (y20e4.eq_1)) (@unfC _ _ (y20e5.eq_1)))))
def C_slices_Index_int:LFn:=⟨19,[.t 4],(.seq (.sq [(zs 4 (.mv true (zi 0)))]) y20e5)⟩
def y20f1 (c:Nat→FuncId):LCode:=(.seq (.sq [(zs 5 (.mv true (.t 0))),(zs 6 (.mv false (.t 1))),(zs 7 (.call (.f (c 0)) [(.t 5),(.t 6)])),(zs 8 (.bin .geq .sc (.t 7) (zi 0))),(zs 4 (.mv true (.t 8)))]) .ret)
def U_slices_Contains_int (c:Nat→FuncId):=PLift.up (@unfC _ _ (y20f1.eq_1 c))
def C_slices_Contains_int (c:Nat→FuncId):LFn:=⟨9,[.t 4],(.seq (.sq [(zs 4 (.mv true zF))]) (y20f1 c))⟩
def y20g1 (c:Nat→FuncId):LCode:=(.seq (.seq (.sq [(zs 14 (.mv false (.t 7))),(zs 15 (.bin .eql (.ref 0) (.t 14) (.c .nilP))),(zs 16 (.mv false (.t 15))),(zf 17 16 (.mv false (.t 7))),(zf 18 16 (.nilc (.t 17))),(zf 19 16 (.shift 2 (.t 18))),(zf 20 16 (.load1 false (.t 19))),(zf 21 16 (.mv false (.t 2))),(zf 22 16 (.call (.f (c 0)) [(.t 20),(.t 21)])),(zf 23 16 (.un .not (.t 22))),(zs 24 (.pick (.t 16) zT (.t 23)))]) (.cond (.t 24) (.seq (.sq [(zs 6 (.mv true (.c .nilP)))]) .ret) .skip)) (.seq (.sq [(zs 25 (.mv false (.t 7))),(zs 6 (.mv true (.t 25)))]) .ret))
def y20g2 (c:Nat→FuncId):LCode:=(.seq (.sq [(zs 8 (.mv false (.t 0))),(zs 9 (.nilc (.t 8))),(zs 10 (.shift 0 (.t 9))),(zs 11 (.load1 false (.t 10))),(zs 12 (.mv false (.t 1))),(zs 13 (.look (.one (.int .i64)) (.s .nilP) false (.t 11) (.t 12))),(zs 7 (.mv true (.t 13)))]) (y20g1 c))
def U_coord_Coord_of (c:Nat→FuncId):=PLift.up (zc (@unfC _ _ (y20g1.eq_1 c)) (@unfC _ _ (y20g2.eq_1 c)))
def C_coord_Coord_of (c:Nat→FuncId):LFn:=⟨26,[.t 6],(.seq (.sq [(zs 6 (.mv true (.c .nilP)))]) (y20g2 c))⟩
def y20h1 (c:Nat→FuncId):LCode:=(.seq (.seq (.sq [(zs 5 (.loadA 2 (.t 2))),(zs 6 (.loadA 2 (.t 3))),(zs 7 (.call (.f (c 0)) [(.t 5),(.t 6)])),(zs 8 (.bin .lss .sc (.t 7) (zi 0)))]) (.cond (.t 8) (.seq (.sq [(zs 9 (.loadA 2 (.t 3))),(zn (.store 2 (.t 4) (.t 9)))]) .ret) .skip)) (.seq (.sq [(zs 10 (.loadA 2 (.t 2))),(zn (.store 2 (.t 4) (.t 10)))]) .ret))
def U_stamp_Max (c:Nat→FuncId):=PLift.up (@unfC _ _ (y20h1.eq_1 c))
def C_stamp_Max (c:Nat→FuncId):LFn:=⟨11,[.many 4 2],(.seq (.sq [(zs 2 (.box false false (.t 0))),(zs 3 (.box false false (.t 1))),(zs 4 (.alloc false [(.s (.int .i64 0)),(.s (.int .u8 0))]))]) (y20h1 c))⟩
def y20i1 (c:Nat→FuncId):LCode:=(.seq (.sq [(zs 36 (.mv false (.t 11))),(zs 37 (.nilc (.t 36))),(zs 38 (.shift 4 (.t 37))),(zs 39 (.load1 false (.t 38))),(zs 40 (.mv false (.t 39))),(zf 41 40 (.mv false (.t 11))),(zf 42 40 (.nilc (.t 41))),(zf 43 40 (.shift 3 (.t 42))),(zf 44 40 (.load1 false (.t 43))),(zf 45 40 (.mv false (.t 2))),(zf 46 40 (.look (.one (.int .i64)) (.s (.bool false)) false (.t 44) (.t 45))),(zs 47 (.pick (.t 40) zT (.t 46))),(zs 35 (.mv true (.t 47)))]) (.cond (.t 35) (.seq (.sq [(zs 10 (.mv true (zi 0)))]) .ret) .skip))
def y20i2 (c:Nat→FuncId):LCode:=(.seq (.tree (.rd (zs 20 (.mv false (.t 3))) 0 false (.rd (zs 21 (.mv false (.t 20))) 1 false (.rd (zt 22 21 (.loadA 2 (.t 9))) 2 false (.mv (zt 23 21 (.call (.f (c 1)) [(.t 22)])) [0,1,2] (.rd (zt 24 21 (.un .not (.t 23))) 4 false (.rd (zt 25 21 (.mv false (.t 24))) 5 false (.rd (zf 26 25 (.loadA 2 (.t 9))) 6 false (.rd (zf 27 25 (.mv false (.t 11))) 7 false (.rd (zf 28 25 (.nilc (.t 27))) 8 false (.rd (zf 29 25 (.shift 0 (.t 28))) 9 false (.rd (zf 30 25 (.loadA 2 (.t 29))) 10 false (.mv (zf 31 25 (.call (.f (c 2)) [(.t 26),(.t 30)])) [0,1,2,3,4,5,6,7,8,9,10] (.rd (zf 32 25 (.bin .leq .sc (.t 31) (zi 0))) 12 false (.rd (zt 33 21 (.pick (.t 25) zT (.t 32))) 13 false (.rd (zs 34 (.pick (.t 21) (.t 33) zF)) 14 false (.mv (zs 19 (.mv true (.t 34))) [0,1,2,3,4,5,6,7,8,9,10,11,12,13,14] .done .stop)))) .stop)))))))) .stop))))) (.cond (.t 19) (.seq (.sq [(zs 10 (.mv true (zi 1)))]) .ret) (y20i1 c)))
def y20i3 (c:Nat→FuncId):LCode:=(.seq (.sq [(zs 55 (.mv false (.t 11))),(zs 56 (.mv false (.t 11))),(zs 57 (.build [(.s (.int .i64 0)),(.s (.int .u8 0))] [])),(zs 58 (.nilc (.t 55))),(zs 59 (.shift 4 (.t 58))),(zn (.store 1 (.t 59) zT)),(zs 60 (.nilc (.t 56))),(zs 61 (.shift 6 (.t 60))),(zn (.store 2 (.t 61) (.t 57)))]) (.seq (.sq [(zs 10 (.mv true (zi 0)))]) .ret))
def y20i4 (c:Nat→FuncId):LCode:=(.sq [(zs 82 (.mv false (.t 11))),(zs 83 (.mv false (.t 11))),(zs 84 (.nilc (.t 82))),(zs 85 (.shift 4 (.t 84))),(zn (.store 1 (.t 85) zT)),(zs 86 (.nilc (.t 83))),(zs 87 (.shift 5 (.t 86))),(zn (.store 1 (.t 87) zT))])
def y20i5 (c:Nat→FuncId):LCode:=(.seq (.seq (.tree (.rd (zs 71 (.mv false (.t 11))) 0 false (.rd (zs 72 (.nilc (.t 71))) 1 false (.rd (zs 73 (.shift 3 (.t 72))) 2 false (.rd (zs 74 (.load1 false (.t 73))) 3 false (.rd (zs 75 (.len .map (.t 74))) 4 false (.rd (zs 76 (.mv false (.t 11))) 5 false (.rd (zs 77 (.nilc (.t 76))) 6 false (.rd (zs 78 (.shift 2 (.t 77))) 7 false (.rd (zs 79 (.load1 false (.t 78))) 8 false (.rd (zs 80 (.len .sl (.t 79))) 9 false (.rd (zs 81 (.bin .eql .sc (.t 75) (.t 80))) 10 false .done)))))))))))) (.cond (.t 81) (y20i4 c) .skip)) (.seq (.sq [(zs 10 (.mv true (zi 0)))]) .ret))
def y20i6 (c:Nat→FuncId):LCode:=(.seq (.tree (.rd (zs 62 (.mv false (.t 11))) 0 true (.rd (zs 63 (.mv false (.t 11))) 1 false (.rd (zs 64 (.nilc (.t 63))) 2 false (.rd (zs 65 (.shift 6 (.t 64))) 3 false (.rd (zs 66 (.loadA 2 (.t 65))) 4 false (.rd (zs 67 (.loadA 2 (.t 9))) 5 false (.mv (zs 68 (.call (.f (c 3)) [(.t 66),(.t 67)])) [1,2,3,4,5] (.rd (zs 69 (.nilc (.t 62))) 7 false (.rd (zs 70 (.shift 6 (.t 69))) 8 false (.mv (zn (.store 2 (.t 70) (.t 68))) [0,1,2,3,4,5,6,7,8] .done .stop))) .stop)))))))) (y20i5 c))
def y20i7 (c:Nat→FuncId):LCode:=(.seq (.seq (.sq [(zs 53 (.mv false (.t 3))),(zs 54 (.un .not (.t 53)))]) (.cond (.t 54) (y20i3 c) .skip)) (y20i6 c))
def y20i8 (c:Nat→FuncId):LCode:=(.seq (.sq [(zs 48 (.mv false (.t 11))),(zs 49 (.nilc (.t 48))),(zs 50 (.shift 3 (.t 49))),(zs 51 (.load1 false (.t 50))),(zs 52 (.mv false (.t 2))),(zn (.upd (.one (.int .i64)) (.t 51) (.t 52) zT))]) (y20i7 c))
def y20i9 (c:Nat→FuncId):LCode:=(.seq (.block 0 (.seq (.sq [(zs 17 (.mv false (.t 11))),(zs 18 (.bin .eql (.ref 0) (.t 17) (.c .nilP))),(zs 16 (.mv true (.t 18)))]) (.cond (.t 16) (.seq (.sq [(zs 10 (.mv true (zi 4)))]) .ret) (y20i2 c)))) (y20i8 c))
def y20i10 (c:Nat→FuncId):LCode:=(.seq (.sq [(zs 12 (.mv false (.t 0))),(zs 13 (.mv false (.t 1))),(zs 14 (.mv false (.t 2))),(zs 15 (.call (.f (c 0)) [(.t 12),(.t 13),(.t 14)])),(zs 11 (.mv true (.t 15)))]) (y20i9 c))
def U_coord_Coord_Vote (c:Nat→FuncId):=PLift.up (zc (zc (zc (@unfC _ _ (y20i1.eq_1 c)) (@unfC _ _ (y20i2.eq_1 c))) (zc (@unfC _ _ (y20i3.eq_1 c)) (zc (@unfC _ _ (y20i4.eq_1 c)) (@unfC _ _ (y20i5.eq_1 c))))) (zc (zc (@unfC _ _ (y20i6.eq_1 c)) (@unfC _ _ (y20i7.eq_1 c))) (zc (@unfC _ _ (y20i8.eq_1 c)) (zc (@unfC _ _ (y20i9.eq_1 c)) (@unfC _ _ (y20i10.eq_1 c))))))
def C_coord_Coord_Vote (c:Nat→FuncId):LFn:=⟨88,[.t 10],(.seq (.sq [(zs 9 (.box false false (.t 4))),(zs 10 (.mv true (zi 0)))]) (y20i10 c))⟩
def y20j1:LCode:=(.seq (.sq [(zs 23 (.build [(.s (.int .i64 0)),(.s (.int .u8 0))] [])),(zs 4 (.mv true zF)),(zs 5 (.mv true zF)),(zn (.store 2 (.t 6) (.t 23)))]) .ret)
def y20j2:LCode:=(.seq (.tree (.rd (zs 24 (.mv false (.t 7))) 0 true (.rd (zs 25 (.nilc (.t 24))) 1 true (.rd (zs 26 (.shift 5 (.t 25))) 2 true (.rd (zs 27 (.load1 false (.t 26))) 3 true (.rd (zs 28 (.mv false (.t 7))) 4 true (.rd (zs 29 (.nilc (.t 28))) 5 true (.rd (zs 30 (.shift 6 (.t 29))) 6 true (.rd (zs 31 (.loadA 2 (.t 30))) 7 true (.mv (zs 4 (.mv true zT)) [] (.mv (zs 5 (.mv true (.t 27))) [0,1,2,3,8] (.mv (zn (.store 2 (.t 6) (.t 31))) [0,1,2,3,4,5,6,7,8,9] .done .stop) .stop) .stop)))))))))) .ret)
def y20j3:LCode:=(.seq (.seq (.sq [(zs 14 (.mv false (.t 7))),(zs 15 (.bin .eql (.ref 0) (.t 14) (.c .nilP))),(zs 16 (.mv false (.t 15))),(zf 17 16 (.mv false (.t 7))),(zf 18 16 (.nilc (.t 17))),(zf 19 16 (.shift 4 (.t 18))),(zf 20 16 (.load1 false (.t 19))),(zf 21 16 (.un .not (.t 20))),(zs 22 (.pick (.t 16) zT (.t 21)))]) (.cond (.t 22) y20j1 .skip)) y20j2)
def y20j4:LCode:=(.seq (.sq [(zs 8 (.mv false (.t 0))),(zs 9 (.nilc (.t 8))),(zs 10 (.shift 0 (.t 9))),(zs 11 (.load1 false (.t 10))),(zs 12 (.mv false (.t 1))),(zs 13 (.look (.one (.int .i64)) (.s .nilP) false (.t 11) (.t 12))),(zs 7 (.mv true (.t 13)))]) y20j3)
def U_coord_Coord_Decision:=PLift.up (zc (zc (@unfC _ _ (y20j1.eq_1)) (@unfC _ _ (y20j2.eq_1))) (zc (@unfC _ _ (y20j3.eq_1)) (@unfC _ _ (y20j4.eq_1))))
def C_coord_Coord_Decision:LFn:=⟨32,[.t 4,.t 5,.many 6 2],(.seq (.sq [(zs 4 (.mv true zF)),(zs 5 (.mv true zF)),(zs 6 (.alloc false [(.s (.int .i64 0)),(.s (.int .u8 0))]))]) y20j4)⟩
def y20k1:LCode:=(.seq (.sq [(zs 4 (.load1 false (.t 1))),(zs 5 (.nilc (.t 4))),(zs 6 (.shift 8 (.t 5))),(zs 7 (.load1 false (.t 6))),(zs 8 (.mv false (.t 0))),(zs 9 (.look (.one (.int .i64)) (.s (.bool false)) false (.t 7) (.t 8))),(zs 3 (.mv true (.t 9)))]) .ret)
def U_coord_Coord_Owes_1:=PLift.up (@unfC _ _ (y20k1.eq_1))
def C_coord_Coord_Owes_1:LFn:=⟨10,[.t 3],(.seq (.sq [(zs 3 (.mv true zF))]) y20k1)⟩
def y20l1:LCode:=(.cond (.t 16) (.seq (.sq [(zs 17 (.mv false (.t 5))),(zs 4 (.mv true (.t 17)))]) .ret) .skip)
def y20l2:LCode:=(.seq (.sq [(zs 11 (.mv false (.t 1))),(zs 12 (.mv false (.t 0))),(zs 13 (.mv false (.t 5))),(zs 14 (.ixa (.sl 1) (.t 12) (.t 13))),(zs 15 (.load1 false (.t 14))),(zs 16 (.call (.t 11) [(.t 15)]))]) y20l1)
def y20l3:LCode:=(.seq (.block 1 (.seq (.sq [(zs 10 (.mv false (.t 8))),(zs 5 (.mv true (.t 10)))]) y20l2)) (.sq [(zs 18 (.bin .add .sc (.t 8) (zi 1))),(zs 8 (.mv false (.t 18)))]))
def y20l4:LCode:=(.seq (.sq [(zs 9 (.bin .lss .sc (.t 8) (.t 7)))]) (.seq (.cond (.t 9) .skip (.exit 0)) y20l3))
def y20l5:LCode:=(.block 0 (.loop (zm false [0,2,5,2,10]) y20l4))
def y20l6:LCode:=(.seq (.seq (.sq [(zs 6 (.mv false (.t 0))),(zs 7 (.len .sl (.t 6))),(zs 8 (.mv false (zi 0)))]) y20l5) (.seq (.sq [(zs 4 (.mv true (.c (.int .i64 (-1)))))]) .ret))
def U_slices_IndexFunc_int:=PLift.up (zc (zc (@unfC _ _ (y20l1.eq_1)) (zc (@unfC _ _ (y20l2.eq_1)) (@unfC _ _ (y20l3.eq_1)))) (zc (@unfC _ _ (y20l4.eq_1)) (zc (@unfC _ _ (y20l5.eq_1)) (@unfC _ _ (y20l6.eq_1)))))
def C_slices_IndexFunc_int:LFn:=⟨19,[.t 4],(.seq (.sq [(zs 4 (.mv true (zi 0)))]) y20l6)⟩
def y20m1 (c:Nat→FuncId):LCode:=(.seq (.sq [(zs 13 (.frz ⟨1,false,8,(.s (.int .i64 0))⟩ (.t 0))),(zs 4 (.mv true (.t 13)))]) .ret)
def y20m2 (c:Nat→FuncId):LCode:=(.sq [(zs 34 (.mv false (.t 5))),(zs 35 (.bin .add .sc (.t 34) (zi 1))),(zs 5 (.mv true (.t 35)))])
def y20m3 (c:Nat→FuncId):LCode:=(.seq (.sq [(zs 30 (.mv false (.t 0))),(zs 31 (.mv false (.t 5))),(zs 32 (.mv false (.t 7))),(zs 33 (.ixa (.sl 1) (.t 30) (.t 31))),(zn (.store 1 (.t 33) (.t 32)))]) (y20m2 c))
def y20m4 (c:Nat→FuncId):LCode:=(.seq (.sq [(zs 26 (.mv false (.t 1))),(zs 27 (.mv false (.t 7))),(zs 28 (.call (.t 26) [(.t 27)])),(zs 29 (.un .not (.t 28)))]) (.cond (.t 29) (y20m3 c) .skip))
def y20m5 (c:Nat→FuncId):LCode:=(.sq [(zs 20 (.mv false (.t 6))),(zs 21 (.bin .add .sc (.t 20) (zi 1))),(zs 6 (.mv true (.t 21)))])
def y20m6 (c:Nat→FuncId):LCode:=(.seq (.block 1 (.seq (.sq [(zs 22 (.mv false (.t 0))),(zs 23 (.mv false (.t 6))),(zs 24 (.ixa (.sl 1) (.t 22) (.t 23))),(zs 25 (.load1 false (.t 24))),(zs 7 (.mv true (.t 25)))]) (y20m4 c))) (y20m5 c))
def y20m7 (c:Nat→FuncId):LCode:=(.seq (.seq (.sq [(zs 16 (.mv false (.t 6))),(zs 17 (.mv false (.t 0))),(zs 18 (.len .sl (.t 17))),(zs 19 (.bin .lss .sc (.t 16) (.t 18)))]) (.cond (.t 19) .skip (.exit 0))) (y20m6 c))
def y20m8 (c:Nat→FuncId):LCode:=(.block 0 (.loop (zm false [0,2,3,2,35]) (y20m7 c)))
def y20m9 (c:Nat→FuncId):LCode:=(.seq (.sq [(zs 39 (.frz ⟨1,false,8,(.s (.int .i64 0))⟩ (.t 0))),(zs 40 (.mv false (.t 5))),(zs 41 (.slc (.sl 1) (.t 39) none (some (.t 40)) none)),(zs 4 (.mv true (.t 41)))]) .ret)
def y20m10 (c:Nat→FuncId):LCode:=(.seq (.sq [(zs 36 (.mv false (.t 0))),(zs 37 (.mv false (.t 5))),(zs 38 (.slc (.sl 1) (.t 36) (some (.t 37)) none none)),(zn (.clr ⟨1,false,8,(.s (.int .i64 0))⟩ (.t 38)))]) (y20m9 c))
def y20m11 (c:Nat→FuncId):LCode:=(.seq (.seq (.sq [(zs 14 (.mv false (.t 5))),(zs 15 (.bin .add .sc (.t 14) (zi 1))),(zs 6 (.mv true (.t 15)))]) (y20m8 c)) (y20m10 c))
def y20m12 (c:Nat→FuncId):LCode:=(.seq (.seq (.sq [(zs 11 (.mv false (.t 5))),(zs 12 (.bin .eql .sc (.t 11) (.c (.int .i64 (-1)))))]) (.cond (.t 12) (y20m1 c) .skip)) (y20m11 c))
def y20m13 (c:Nat→FuncId):LCode:=(.seq (.sq [(zs 8 (.thaw 0)),(zs 9 (.mv false (.t 1))),(zs 10 (.call (.f (c 0)) [(.t 8),(.t 9)])),(zs 5 (.mv true (.t 10)))]) (y20m12 c))
def U_slices_DeleteFunc_int (c:Nat→FuncId):=PLift.up (zc (zc (zc (@unfC _ _ (y20m1.eq_1 c)) (zc (@unfC _ _ (y20m2.eq_1 c)) (@unfC _ _ (y20m3.eq_1 c)))) (zc (@unfC _ _ (y20m4.eq_1 c)) (zc (@unfC _ _ (y20m5.eq_1 c)) (@unfC _ _ (y20m6.eq_1 c))))) (zc (zc (@unfC _ _ (y20m7.eq_1 c)) (zc (@unfC _ _ (y20m8.eq_1 c)) (@unfC _ _ (y20m9.eq_1 c)))) (zc (zc (@unfC _ _ (y20m10.eq_1 c)) (@unfC _ _ (y20m11.eq_1 c))) (zc (@unfC _ _ (y20m12.eq_1 c)) (@unfC _ _ (y20m13.eq_1 c))))))
def C_slices_DeleteFunc_int (c:Nat→FuncId):LFn:=⟨42,[.t 4],(.seq (.sq [(zs 4 (.mv true (.c .nilS)))]) (y20m13 c))⟩
def y20n1 (c:Nat→FuncId):LCode:=(.seq (.sq [(zs 14 (.load1 false (.t 5))),(zs 15 (.nilc (.t 14))),(zs 16 (.shift 2 (.t 15))),(zs 17 (.load1 false (.t 16))),(zs 18 (.call (.f (c 0)) [(.t 17)])),(zs 19 (.mkfn (c 1) [] [(.t 5)])),(zs 20 (.call (.f (c 2)) [(.t 18),(.t 19)])),(zs 4 (.mv true (.t 20)))]) .ret)
def y20n2 (c:Nat→FuncId):LCode:=(.seq (.seq (.sq [(zs 12 (.load1 false (.t 5))),(zs 13 (.bin .eql (.ref 0) (.t 12) (.c .nilP)))]) (.cond (.t 13) (.seq (.sq [(zs 4 (.mv true (.c .nilS)))]) .ret) .skip)) (y20n1 c))
def y20n3 (c:Nat→FuncId):LCode:=(.seq (.sq [(zs 6 (.mv false (.t 0))),(zs 7 (.nilc (.t 6))),(zs 8 (.shift 0 (.t 7))),(zs 9 (.load1 false (.t 8))),(zs 10 (.mv false (.t 1))),(zs 11 (.look (.one (.int .i64)) (.s .nilP) false (.t 9) (.t 10))),(zs 5 (.alloc false [(.s .nilP)])),(zn (.store 1 (.t 5) (.t 11)))]) (y20n2 c))
def U_coord_Coord_Owes (c:Nat→FuncId):=PLift.up (zc (@unfC _ _ (y20n1.eq_1 c)) (zc (@unfC _ _ (y20n2.eq_1 c)) (@unfC _ _ (y20n3.eq_1 c))))
def C_coord_Coord_Owes (c:Nat→FuncId):LFn:=⟨21,[.t 4],(.seq (.sq [(zs 4 (.mv true (.c .nilS)))]) (y20n3 c))⟩
def y20o1 (c:Nat→FuncId):LCode:=(.sq [(zs 34 (.mv true (.t 3))),(zs 35 (.mv false (.t 5))),(zs 36 (.bsl ⟨1,false,8,(.s (.int .i64 0))⟩ 1 [(0,(.t 35))])),(zs 37 (.app ⟨1,false,8,(.s (.int .i64 0))⟩ false (.t 34) (.t 36))),(zs 3 (.mv true (.t 37)))])
def y20o2 (c:Nat→FuncId):LCode:=(.seq (.sq [(zs 17 (.mv false (.t 0))),(zs 18 (.nilc (.t 17))),(zs 19 (.shift 0 (.t 18))),(zs 20 (.load1 false (.t 19))),(zs 21 (.mv false (.t 5))),(zs 22 (.look (.one (.int .i64)) (.s .nilP) false (.t 20) (.t 21))),(zs 23 (.nilc (.t 22))),(zs 24 (.shift 4 (.t 23))),(zs 25 (.load1 false (.t 24))),(zs 26 (.un .not (.t 25))),(zs 27 (.mv false (.t 26))),(zf 28 27 (.mv false (.t 0))),(zf 29 27 (.mv false (.t 5))),(zf 30 27 (.call (.f (c 2)) [(.t 28),(.t 29)])),(zf 31 27 (.len .sl (.t 30))),(zf 32 27 (.bin .gtr .sc (.t 31) (zi 0))),(zs 33 (.pick (.t 27) zT (.t 32)))]) (.cond (.t 33) (y20o1 c) .skip))
def y20o3 (c:Nat→FuncId):LCode:=(.seq (.block 1 (.seq (.sq [(zs 15 (.ixa (.sl 1) (.t 11) (.t 13))),(zs 16 (.load1 false (.t 15))),(zs 5 (.mv true (.t 16)))]) (y20o2 c))) (.sq [(zs 38 (.bin .add .sc (.t 13) (zi 1))),(zs 13 (.mv false (.t 38)))]))
def y20o4 (c:Nat→FuncId):LCode:=(.seq (.sq [(zs 14 (.bin .lss .sc (.t 13) (.t 12)))]) (.seq (.cond (.t 14) .skip (.exit 0)) (y20o3 c)))
def y20o5 (c:Nat→FuncId):LCode:=(.block 0 (.loop (zm false [0,1,2,1,7,3,26]) (y20o4 c)))
def y20o6 (c:Nat→FuncId):LCode:=(.seq (.seq (.sq [(zs 6 (.mv false (.t 0))),(zs 7 (.nilc (.t 6))),(zs 8 (.shift 0 (.t 7))),(zs 9 (.load1 false (.t 8))),(zs 10 (.call (.f (c 0)) [(.t 9)])),(zs 11 (.call (.f (c 1)) [(.t 10)])),(zs 12 (.len .sl (.t 11))),(zs 13 (.mv false (zi 0)))]) (y20o5 c)) (.seq (.sq [(zs 39 (.mv true (.t 3))),(zs 2 (.mv true (.t 39)))]) .ret))
def U_coord_Coord_Open (c:Nat→FuncId):=PLift.up (zc (zc (@unfC _ _ (y20o1.eq_1 c)) (zc (@unfC _ _ (y20o2.eq_1 c)) (@unfC _ _ (y20o3.eq_1 c)))) (zc (@unfC _ _ (y20o4.eq_1 c)) (zc (@unfC _ _ (y20o5.eq_1 c)) (@unfC _ _ (y20o6.eq_1 c)))))
def C_coord_Coord_Open (c:Nat→FuncId):LFn:=⟨40,[.t 2],(.seq (.sq [(zs 2 (.mv true (.c .nilS)))]) (.seq (.sq [(zs 3 (.mv true (.c .nilS)))]) (y20o6 c)))⟩
def y20p1 (c:Nat→FuncId):LCode:=(.seq (.sq [(zs 34 (.mv false (.t 2))),(zs 35 (.bin .eql .sc (.t 34) (zi 0))),(zs 36 (.mv false (.t 35))),(zt 37 36 (.mv false (.t 3))),(zt 38 36 (.un .not (.t 37))),(zs 39 (.pick (.t 36) (.t 38) zF)),(zs 40 (.mv false (.t 39))),(zt 41 40 (.mv false (.t 6))),(zs 42 (.pick (.t 40) (.t 41) zF)),(zs 43 (.mv false (.t 42))),(zt 44 43 (.mv false (.t 7))),(zs 45 (.pick (.t 43) (.t 44) zF)),(zs 46 (.mv false (.t 45))),(zt 47 46 (.loadA 2 (.t 8))),(zt 48 46 (.build [(.s (.int .i64 0)),(.s (.int .u8 0))] [(0,1,(zi 7)),(1,1,(.c (.int .u8 1)))])),(zt 49 46 (.bin .eql (.leaf [.int .i64,.int .u8]) (.t 47) (.t 48))),(zs 50 (.pick (.t 46) (.t 49) zF)),(zs 51 (.mv false (.t 50))),(zt 52 51 (.mv false (.t 1))),(zt 53 51 (.call (.f (c 5)) [(.t 52),(zi 1)])),(zt 54 51 (.bsl ⟨1,false,8,(.s (.int .i64 0))⟩ 2 [(0,(zi 0)),(1,(zi 1))])),(zt 55 51 (.call (.f (c 6)) [(.t 53),(.t 54)])),(zs 56 (.pick (.t 51) (.t 55) zF)),(zs 57 (.mv false (.t 56))),(zt 58 57 (.mv false (.t 1))),(zt 59 57 (.call (.f (c 7)) [(.t 58)])),(zt 60 57 (.bsl ⟨1,false,8,(.s (.int .i64 0))⟩ 1 [(0,(zi 1))])),(zt 61 57 (.call (.f (c 8)) [(.t 59),(.t 60)])),(zs 62 (.pick (.t 57) (.t 61) zF)),(zs 0 (.mv true (.t 62)))]) .ret)
def y20p2 (c:Nat→FuncId):LCode:=(.seq (.sq [(zs 29 (.mv false (.t 1))),(zs 30 (.call (.f (c 4)) [(.t 29),(zi 1)])),(zs 28 (.mv false (.t 30))),(zs 31 (.ext (.t 28) 0)),(zs 32 (.ext (.t 28) 1)),(zs 33 (.ext (.t 28) 2)),(zs 8 (.alloc false [(.s (.int .i64 0)),(.s (.int .u8 0))])),(zs 6 (.mv true (.t 31))),(zs 7 (.mv true (.t 32))),(zn (.store 2 (.t 8) (.t 33)))]) (y20p1 c))
def y20p3 (c:Nat→FuncId):LCode:=(.seq (.sq [(zs 25 (.mv false (.t 1))),(zs 26 (.build [(.s (.int .i64 0)),(.s (.int .u8 0))] [(0,1,(zi 7)),(1,1,(.c (.int .u8 1)))])),(zs 27 (.call (.f (c 3)) [(.t 25),(zi 1),(zi 1),zT,(.t 26)]))]) (y20p2 c))
def y20p4 (c:Nat→FuncId):LCode:=(.seq (.sq [(zs 20 (.mv false (.t 1))),(zs 21 (.call (.f (c 4)) [(.t 20),(zi 1)])),(zs 19 (.mv false (.t 21))),(zs 22 (.ext (.t 19) 0)),(zs 23 (.ext (.t 19) 1)),(zs 24 (.ext (.t 19) 2)),(zs 5 (.alloc false [(.s (.int .i64 0)),(.s (.int .u8 0))])),(zs 3 (.mv true (.t 22))),(zs 4 (.mv true (.t 23))),(zn (.store 2 (.t 5) (.t 24)))]) (y20p3 c))
def y20p5 (c:Nat→FuncId):LCode:=(.seq (.sq [(zs 16 (.mv false (.t 1))),(zs 17 (.call (.f (c 1)) [(zi 5)])),(zs 18 (.call (.f (c 3)) [(.t 16),(zi 1),(zi 0),zT,(.t 17)]))]) (y20p4 c))
def y20p6 (c:Nat→FuncId):LCode:=(.seq (.sq [(zs 12 (.mv false (.t 1))),(zs 13 (.call (.f (c 1)) [(zi 0)])),(zs 14 (.bsl ⟨1,false,8,(.s (.int .i64 0))⟩ 2 [(0,(zi 0)),(1,(zi 1))])),(zs 15 (.call (.f (c 2)) [(.t 12),(zi 1),(.t 13),(.t 14)])),(zs 2 (.mv true (.t 15)))]) (y20p5 c))
def y20p7 (c:Nat→FuncId):LCode:=(.seq (.seq (.sq [(zs 10 (.mv false (.t 1))),(zs 11 (.bin .eql (.ref 0) (.t 10) (.c .nilP)))]) (.cond (.t 11) (.seq (.sq [(zs 0 (.mv true zF))]) .ret) .skip)) (y20p6 c))
def U_hourglasslaw18_awake (c:Nat→FuncId):=PLift.up (zc (zc (@unfC _ _ (y20p1.eq_1 c)) (zc (@unfC _ _ (y20p2.eq_1 c)) (@unfC _ _ (y20p3.eq_1 c)))) (zc (zc (@unfC _ _ (y20p4.eq_1 c)) (@unfC _ _ (y20p5.eq_1 c))) (zc (@unfC _ _ (y20p6.eq_1 c)) (@unfC _ _ (y20p7.eq_1 c)))))
def C_hourglasslaw18_awake (c:Nat→FuncId):LFn:=⟨63,[.t 0],(.seq (.sq [(zs 0 (.mv true zF))]) (.seq (.sq [(zs 9 (.call (.f (c 0)) [])),(zs 1 (.mv true (.t 9)))]) (y20p7 c)))⟩
def y20r1 (c:Nat→FuncId):LCode:=(.seq (.sq [(zs 16 (.mv false (.t 7))),(zs 17 (.nilc (.t 16))),(zs 18 (.shift 4 (.t 17))),(zs 19 (.load1 false (.t 18))),(zs 20 (.un .not (.t 19))),(zs 15 (.mv true (.t 20)))]) (.cond (.t 15) (.seq (.sq [(zs 6 (.mv true (zi 8)))]) .ret) .skip))
def y20r2 (c:Nat→FuncId):LCode:=(.seq (.sq [(zs 21 (.mv false (.t 7))),(zs 22 (.nilc (.t 21))),(zs 23 (.shift 8 (.t 22))),(zs 24 (.load1 false (.t 23))),(zs 25 (.mv false (.t 2))),(zn (.upd (.one (.int .i64)) (.t 24) (.t 25) zT))]) (.seq (.sq [(zs 6 (.mv true (zi 0)))]) .ret))
def y20r3 (c:Nat→FuncId):LCode:=(.seq (.block 0 (.seq (.sq [(zs 13 (.mv false (.t 7))),(zs 14 (.bin .eql (.ref 0) (.t 13) (.c .nilP))),(zs 12 (.mv true (.t 14)))]) (.cond (.t 12) (.seq (.sq [(zs 6 (.mv true (zi 4)))]) .ret) (y20r1 c)))) (y20r2 c))
def y20r4 (c:Nat→FuncId):LCode:=(.seq (.sq [(zs 8 (.mv false (.t 0))),(zs 9 (.mv false (.t 1))),(zs 10 (.mv false (.t 2))),(zs 11 (.call (.f (c 0)) [(.t 8),(.t 9),(.t 10)])),(zs 7 (.mv true (.t 11)))]) (y20r3 c))
def U_coord_Coord_Ack (c:Nat→FuncId):=PLift.up (zc (zc (@unfC _ _ (y20r1.eq_1 c)) (@unfC _ _ (y20r2.eq_1 c))) (zc (@unfC _ _ (y20r3.eq_1 c)) (@unfC _ _ (y20r4.eq_1 c))))
def C_coord_Coord_Ack (c:Nat→FuncId):LFn:=⟨26,[.t 6],(.seq (.sq [(zs 6 (.mv true (zi 0)))]) (y20r4 c))⟩
def y20s1:LCode:=(.cond (.t 14) (.seq (.sq [(zs 4 (.mv true zF)),(zs 5 (.mv true (zi 4)))]) .ret) .skip)
def y20s2:LCode:=(.sq [(zs 20 (.mv false (.t 6))),(zs 21 (.mv false (.t 6))),(zs 22 (.build [(.s (.int .i64 0)),(.s (.int .u8 0))] [])),(zs 23 (.nilc (.t 20))),(zs 24 (.shift 4 (.t 23))),(zn (.store 1 (.t 24) zT)),(zs 25 (.nilc (.t 21))),(zs 26 (.shift 6 (.t 25))),(zn (.store 2 (.t 26) (.t 22)))])
def y20s3:LCode:=(.seq (.sq [(zs 27 (.mv false (.t 6))),(zs 28 (.nilc (.t 27))),(zs 29 (.shift 5 (.t 28))),(zs 30 (.load1 false (.t 29))),(zs 4 (.mv true (.t 30))),(zs 5 (.mv true (zi 0)))]) .ret)
def y20s4:LCode:=(.seq (.seq (.sq [(zs 15 (.mv false (.t 6))),(zs 16 (.nilc (.t 15))),(zs 17 (.shift 4 (.t 16))),(zs 18 (.load1 false (.t 17))),(zs 19 (.un .not (.t 18)))]) (.cond (.t 19) y20s2 .skip)) y20s3)
def y20s5:LCode:=(.seq (.seq (.sq [(zs 13 (.mv false (.t 6))),(zs 14 (.bin .eql (.ref 0) (.t 13) (.c .nilP)))]) y20s1) y20s4)
def y20s6:LCode:=(.seq (.sq [(zs 7 (.mv false (.t 0))),(zs 8 (.nilc (.t 7))),(zs 9 (.shift 0 (.t 8))),(zs 10 (.load1 false (.t 9))),(zs 11 (.mv false (.t 1))),(zs 12 (.look (.one (.int .i64)) (.s .nilP) false (.t 10) (.t 11))),(zs 6 (.mv true (.t 12)))]) y20s5)
def U_coord_Coord_Give:=PLift.up (zc (zc (@unfC _ _ (y20s1.eq_1)) (zc (@unfC _ _ (y20s2.eq_1)) (@unfC _ _ (y20s3.eq_1)))) (zc (@unfC _ _ (y20s4.eq_1)) (zc (@unfC _ _ (y20s5.eq_1)) (@unfC _ _ (y20s6.eq_1)))))
def C_coord_Coord_Give:LFn:=⟨31,[.t 4,.t 5],(.seq (.sq [(zs 4 (.mv true zF)),(zs 5 (.mv true (zi 0)))]) y20s6)⟩
def y20u1 (c:Nat→FuncId):LCode:=(.seq (.sq [(zs 22 (.build [(.s (.int .i64 0)),(.s (.int .i64 0)),(.s (.int .i64 0)),(.s (.int .u8 0)),(.s (.int .i64 0)),(.s (.int .u8 0)),(.s .nilS),(.s (.bool false)),(.s .nilS)] [])),(zn (.store 9 (.t 4) (.t 22))),(zs 5 (.mv true zF))]) .ret)
def y20u2 (c:Nat→FuncId):LCode:=(.seq (.tree (.rd (zs 23 (.mv false (.t 1))) 0 true (.rd (zs 24 (.mv false (.t 6))) 1 true (.rd (zs 25 (.nilc (.t 24))) 2 true (.rd (zs 26 (.shift 5 (.t 25))) 3 true (.rd (zs 27 (.load1 false (.t 26))) 4 true (.rd (zs 28 (.mv false (.t 6))) 5 true (.rd (zs 29 (.nilc (.t 28))) 6 true (.rd (zs 30 (.shift 6 (.t 29))) 7 true (.rd (zs 31 (.loadA 2 (.t 30))) 8 true (.rd (zs 32 (.mv false (.t 6))) 9 false (.rd (zs 33 (.nilc (.t 32))) 10 false (.rd (zs 34 (.shift 2 (.t 33))) 11 false (.rd (zs 35 (.load1 false (.t 34))) 12 false (.mv (zs 36 (.call (.f (c 0)) [(.t 35)])) [9,10,11,12] (.rd (zs 37 (.build [(.s (.int .i64 0)),(.s (.int .i64 0)),(.s (.int .i64 0)),(.s (.int .u8 0)),(.s (.int .i64 0)),(.s (.int .u8 0)),(.s .nilS),(.s (.bool false)),(.s .nilS)] [(0,1,(zi 4)),(1,1,(.t 23)),(7,1,(.t 27)),(4,2,(.t 31)),(8,1,(.t 36))])) 14 false (.mv (zn (.store 9 (.t 4) (.t 37))) [0,1,2,3,4,5,6,7,8,9,10,11,12,13,14] (.mv (zs 5 (.mv true zT)) [0,1,2,3,4,5,6,7,8,9,10,11,12,13,14,15] .done .stop) .stop)) .stop))))))))))))))) .ret)
def y20u3 (c:Nat→FuncId):LCode:=(.seq (.seq (.sq [(zs 13 (.mv false (.t 6))),(zs 14 (.bin .eql (.ref 0) (.t 13) (.c .nilP))),(zs 15 (.mv false (.t 14))),(zf 16 15 (.mv false (.t 6))),(zf 17 15 (.nilc (.t 16))),(zf 18 15 (.shift 4 (.t 17))),(zf 19 15 (.load1 false (.t 18))),(zf 20 15 (.un .not (.t 19))),(zs 21 (.pick (.t 15) zT (.t 20)))]) (.cond (.t 21) (y20u1 c) .skip)) (y20u2 c))
def y20u4 (c:Nat→FuncId):LCode:=(.seq (.sq [(zs 7 (.mv false (.t 0))),(zs 8 (.nilc (.t 7))),(zs 9 (.shift 0 (.t 8))),(zs 10 (.load1 false (.t 9))),(zs 11 (.mv false (.t 1))),(zs 12 (.look (.one (.int .i64)) (.s .nilP) false (.t 10) (.t 11))),(zs 6 (.mv true (.t 12)))]) (y20u3 c))
def U_coord_Coord_Record (c:Nat→FuncId):=PLift.up (zc (zc (@unfC _ _ (y20u1.eq_1 c)) (@unfC _ _ (y20u2.eq_1 c))) (zc (@unfC _ _ (y20u3.eq_1 c)) (@unfC _ _ (y20u4.eq_1 c))))
def C_coord_Coord_Record (c:Nat→FuncId):LFn:=⟨38,[.many 4 9,.t 5],(.seq (.sq [(zs 4 (.alloc false [(.s (.int .i64 0)),(.s (.int .i64 0)),(.s (.int .i64 0)),(.s (.int .u8 0)),(.s (.int .i64 0)),(.s (.int .u8 0)),(.s .nilS),(.s (.bool false)),(.s .nilS)])),(zs 5 (.mv true zF))]) (y20u4 c))⟩
def y20v1 (c:Nat→FuncId):LCode:=(.seq (.tree (.rd (zs 21 (.mv false (.t 0))) 0 true (.rd (zs 22 (.shift 1 (.t 3))) 1 true (.rd (zs 23 (.load1 false (.t 22))) 2 true (.rd (zs 24 (.shift 8 (.t 3))) 3 false (.rd (zs 25 (.load1 false (.t 24))) 4 false (.rd (zs 27 (.shift 7 (.t 3))) 6 true (.rd (zs 28 (.load1 false (.t 27))) 7 true (.rd (zs 29 (.shift 4 (.t 3))) 8 true (.rd (zs 30 (.loadA 2 (.t 29))) 9 true (.mv (zs 26 (.call (.f (c 1)) [(.t 25)])) [3,4] (.rd (zs 31 (.build [(.s (.int .i64 0)),(.s (.int .u8 0)),(.s .nilS),(.s .nilM),(.s (.bool false)),(.s (.bool false)),(.s (.int .i64 0)),(.s (.int .u8 0)),(.s .nilM)] [(2,1,(.t 26)),(4,1,zT),(5,1,(.t 28)),(6,2,(.t 30))])) 10 false (.mv (zs 32 (.box false true (.t 31))) [3,4,5,6,7,8,9,10] (.mv (zs 33 (.call (.f (c 2)) [(.t 21),(.t 23),(.t 32)])) [0,1,2,3,4,5,6,7,8,9,10,11] .done .stop) .stop)) .stop))))))))))) (.seq (.sq [(zs 4 (.mv true (zi 0)))]) .ret))
def y20v2 (c:Nat→FuncId):LCode:=(.seq (.seq (.tree (.rd (zs 13 (.mv false (.t 0))) 0 false (.rd (zs 14 (.nilc (.t 13))) 1 false (.rd (zs 15 (.shift 0 (.t 14))) 2 false (.rd (zs 16 (.load1 false (.t 15))) 3 false (.rd (zs 17 (.shift 1 (.t 3))) 4 false (.rd (zs 18 (.load1 false (.t 17))) 5 false (.rd (zs 19 (.look (.one (.int .i64)) (.s .nilP) false (.t 16) (.t 18))) 6 false (.rd (zs 20 (.bin .neq (.ref 0) (.t 19) (.c .nilP))) 7 false .done))))))))) (.cond (.t 20) (.seq (.sq [(zs 4 (.mv true (zi 5)))]) .ret) .skip)) (y20v1 c))
def y20v3 (c:Nat→FuncId):LCode:=(.seq (.seq (.sq [(zs 5 (.loadA 9 (.t 3))),(zs 6 (.call (.f (c 0)) [(.t 5)])),(zs 7 (.un .not (.t 6))),(zs 8 (.mv false (.t 7))),(zf 9 8 (.shift 0 (.t 3))),(zf 10 8 (.load1 false (.t 9))),(zf 11 8 (.bin .neq .sc (.t 10) (zi 4))),(zs 12 (.pick (.t 8) zT (.t 11)))]) (.cond (.t 12) (.seq (.sq [(zs 4 (.mv true (zi 3)))]) .ret) .skip)) (y20v2 c))
def U_coord_Coord_Play (c:Nat→FuncId):=PLift.up (zc (@unfC _ _ (y20v1.eq_1 c)) (zc (@unfC _ _ (y20v2.eq_1 c)) (@unfC _ _ (y20v3.eq_1 c))))
def C_coord_Coord_Play (c:Nat→FuncId):LFn:=⟨34,[.t 4],(.seq (.sq [(zs 3 (.box false false (.t 1))),(zs 4 (.mv true (zi 0)))]) (y20v3 c))⟩
def y20x1 (c:Nat→FuncId):LCode:=(.seq (.sq [(zs 94 (.mv false (.t 2))),(zs 95 (.bin .eql .sc (.t 94) (zi 1))),(zs 96 (.mv false (.t 95))),(zt 97 96 (.mv false (.t 3))),(zt 98 96 (.bin .eql .sc (.t 97) (zi 1))),(zs 99 (.pick (.t 96) (.t 98) zF)),(zs 100 (.mv false (.t 99))),(zt 101 100 (.mv false (.t 4))),(zt 102 100 (.bin .eql .sc (.t 101) (zi 1))),(zs 103 (.pick (.t 100) (.t 102) zF)),(zs 104 (.mv false (.t 103))),(zt 105 104 (.mv false (.t 5))),(zt 106 104 (.bin .eql .sc (.t 105) (zi 5))),(zs 107 (.pick (.t 104) (.t 106) zF)),(zs 108 (.mv false (.t 107))),(zt 109 108 (.mv false (.t 6))),(zt 110 108 (.bin .eql .sc (.t 109) (zi 1))),(zs 111 (.pick (.t 108) (.t 110) zF)),(zs 112 (.mv false (.t 111))),(zt 113 112 (.mv false (.t 7))),(zt 114 112 (.bin .eql .sc (.t 113) (zi 4))),(zs 115 (.pick (.t 112) (.t 114) zF)),(zs 116 (.mv false (.t 115))),(zt 117 116 (.mv false (.t 8))),(zt 118 116 (.bin .eql .sc (.t 117) (zi 8))),(zs 119 (.pick (.t 116) (.t 118) zF)),(zs 120 (.mv false (.t 119))),(zt 121 120 (.mv false (.t 9))),(zs 122 (.pick (.t 120) (.t 121) zF)),(zs 123 (.mv false (.t 122))),(zt 124 123 (.mv false (.t 10))),(zt 125 123 (.un .not (.t 124))),(zs 126 (.pick (.t 123) (.t 125) zF)),(zs 127 (.mv false (.t 126))),(zt 128 127 (.loadA 2 (.t 11))),(zt 129 127 (.build [(.s (.int .i64 0)),(.s (.int .u8 0))] [])),(zt 130 127 (.bin .eql (.leaf [.int .i64,.int .u8]) (.t 128) (.t 129))),(zs 131 (.pick (.t 127) (.t 130) zF)),(zs 132 (.mv false (.t 131))),(zt 133 132 (.mv false (.t 13))),(zs 134 (.pick (.t 132) (.t 133) zF)),(zs 135 (.mv false (.t 134))),(zt 136 135 (.loadA 9 (.t 12))),(zt 137 135 (.bsl ⟨1,false,8,(.s (.int .i64 0))⟩ 2 [(0,(zi 0)),(1,(zi 2))])),(zt 138 135 (.build [(.s (.int .i64 0)),(.s (.int .i64 0)),(.s (.int .i64 0)),(.s (.int .u8 0)),(.s (.int .i64 0)),(.s (.int .u8 0)),(.s .nilS),(.s (.bool false)),(.s .nilS)] [(0,1,(zi 4)),(1,1,(zi 1)),(8,1,(.t 137))])),(zt 139 135 (.call (.f (c 10)) [(.t 136),(.t 138)])),(zs 140 (.pick (.t 135) (.t 139) zF)),(zs 141 (.mv false (.t 140))),(zt 142 141 (.mv false (.t 15))),(zt 143 141 (.un .not (.t 142))),(zs 144 (.pick (.t 141) (.t 143) zF)),(zs 145 (.mv false (.t 144))),(zt 146 145 (.mv false (.t 16))),(zt 147 145 (.bin .eql .sc (.t 146) (zi 5))),(zs 148 (.pick (.t 145) (.t 147) zF)),(zs 149 (.mv false (.t 148))),(zt 150 149 (.mv false (.t 18))),(zt 151 149 (.bin .eql .sc (.t 150) (zi 0))),(zs 152 (.pick (.t 149) (.t 151) zF)),(zs 153 (.mv false (.t 152))),(zt 154 153 (.mv false (.t 19))),(zt 155 153 (.un .not (.t 154))),(zs 156 (.pick (.t 153) (.t 155) zF)),(zs 157 (.mv false (.t 156))),(zt 158 157 (.mv false (.t 20))),(zt 159 157 (.bin .eql .sc (.t 158) (zi 0))),(zs 160 (.pick (.t 157) (.t 159) zF)),(zs 161 (.mv false (.t 160))),(zt 162 161 (.mv false (.t 21))),(zt 163 161 (.bin .neq .sc (.t 162) (zi 4))),(zs 164 (.pick (.t 161) (.t 163) zF)),(zs 165 (.mv false (.t 164))),(zt 166 165 (.mv false (.t 1))),(zt 167 165 (.call (.f (c 11)) [(.t 166)])),(zt 168 165 (.len .sl (.t 167))),(zt 169 165 (.bin .eql .sc (.t 168) (zi 0))),(zs 170 (.pick (.t 165) (.t 169) zF)),(zs 171 (.mv false (.t 170))),(zt 172 171 (.mv false (.t 17))),(zt 173 171 (.call (.f (c 11)) [(.t 172)])),(zt 174 171 (.bsl ⟨1,false,8,(.s (.int .i64 0))⟩ 1 [(0,(zi 1))])),(zt 175 171 (.call (.f (c 12)) [(.t 173),(.t 174)])),(zs 176 (.pick (.t 171) (.t 175) zF)),(zs 177 (.mv false (.t 176))),(zt 178 177 (.mv false (.t 17))),(zt 179 177 (.build [(.s (.int .i64 0)),(.s (.int .i64 0)),(.s (.int .i64 0)),(.s (.int .u8 0)),(.s (.int .i64 0)),(.s (.int .u8 0)),(.s .nilS),(.s (.bool false)),(.s .nilS)] [(0,1,(zi 3)),(1,1,(zi 7))])),(zt 180 177 (.call (.f (c 8)) [(.t 178),(.t 179)])),(zt 181 177 (.bin .eql .sc (.t 180) (zi 3))),(zs 182 (.pick (.t 177) (.t 181) zF)),(zs 0 (.mv true (.t 182)))]) .ret)
def y20x2 (c:Nat→FuncId):LCode:=(.seq (.sq [(zs 92 (.mv false (.t 1))),(zs 93 (.call (.f (c 5)) [(.t 92),(zi 1),(zi 2)]))]) (y20x1 c))
def y20x3 (c:Nat→FuncId):LCode:=(.seq (.sq [(zs 90 (.mv false (.t 1))),(zs 91 (.call (.f (c 5)) [(.t 90),(zi 1),(zi 0)]))]) (y20x2 c))
def y20x4 (c:Nat→FuncId):LCode:=(.seq (.sq [(zs 87 (.mv false (.t 17))),(zs 88 (.call (.f (c 2)) [(zi 9)])),(zs 89 (.call (.f (c 4)) [(.t 87),(zi 1),(zi 0),zT,(.t 88)])),(zs 21 (.mv true (.t 89)))]) (y20x3 c))
def y20x5 (c:Nat→FuncId):LCode:=(.seq (.sq [(zs 83 (.mv false (.t 17))),(zs 84 (.call (.f (c 9)) [(.t 83),(zi 1)])),(zs 82 (.mv false (.t 84))),(zs 85 (.ext (.t 82) 0)),(zs 86 (.ext (.t 82) 1)),(zs 19 (.mv true (.t 85))),(zs 20 (.mv true (.t 86)))]) (y20x4 c))
def y20x6 (c:Nat→FuncId):LCode:=(.seq (.sq [(zs 79 (.mv false (.t 17))),(zs 80 (.loadA 9 (.t 12))),(zs 81 (.call (.f (c 8)) [(.t 79),(.t 80)])),(zs 18 (.mv true (.t 81)))]) (y20x5 c))
def y20x7 (c:Nat→FuncId):LCode:=(.seq (.sq [(zs 78 (.call (.f (c 1)) [])),(zs 17 (.mv true (.t 78)))]) (y20x6 c))
def y20x8 (c:Nat→FuncId):LCode:=(.seq (.sq [(zs 75 (.mv false (.t 1))),(zs 76 (.loadA 9 (.t 12))),(zs 77 (.call (.f (c 8)) [(.t 75),(.t 76)])),(zs 16 (.mv true (.t 77)))]) (y20x7 c))
def y20x9 (c:Nat→FuncId):LCode:=(.seq (.sq [(zs 71 (.mv false (.t 1))),(zs 72 (.call (.f (c 7)) [(.t 71),(zi 2)])),(zs 70 (.mv false (.t 72))),(zs 73 (.ext (.t 70) 0)),(zs 74 (.ext (.t 70) 1)),(zs 14 (.alloc false [(.s (.int .i64 0)),(.s (.int .i64 0)),(.s (.int .i64 0)),(.s (.int .u8 0)),(.s (.int .i64 0)),(.s (.int .u8 0)),(.s .nilS),(.s (.bool false)),(.s .nilS)])),(zn (.store 9 (.t 14) (.t 73))),(zs 15 (.mv true (.t 74)))]) (y20x8 c))
def y20x10 (c:Nat→FuncId):LCode:=(.seq (.sq [(zs 66 (.mv false (.t 1))),(zs 67 (.call (.f (c 7)) [(.t 66),(zi 1)])),(zs 65 (.mv false (.t 67))),(zs 68 (.ext (.t 65) 0)),(zs 69 (.ext (.t 65) 1)),(zs 12 (.alloc false [(.s (.int .i64 0)),(.s (.int .i64 0)),(.s (.int .i64 0)),(.s (.int .u8 0)),(.s (.int .i64 0)),(.s (.int .u8 0)),(.s .nilS),(.s (.bool false)),(.s .nilS)])),(zn (.store 9 (.t 12) (.t 68))),(zs 13 (.mv true (.t 69)))]) (y20x9 c))
def y20x11 (c:Nat→FuncId):LCode:=(.seq (.sq [(zs 60 (.mv false (.t 1))),(zs 61 (.call (.f (c 6)) [(.t 60),(zi 1)])),(zs 59 (.mv false (.t 61))),(zs 62 (.ext (.t 59) 0)),(zs 63 (.ext (.t 59) 1)),(zs 64 (.ext (.t 59) 2)),(zs 11 (.alloc false [(.s (.int .i64 0)),(.s (.int .u8 0))])),(zs 9 (.mv true (.t 62))),(zs 10 (.mv true (.t 63))),(zn (.store 2 (.t 11) (.t 64)))]) (y20x10 c))
def y20x12 (c:Nat→FuncId):LCode:=(.seq (.sq [(zs 56 (.mv false (.t 1))),(zs 57 (.call (.f (c 2)) [(zi 9)])),(zs 58 (.call (.f (c 4)) [(.t 56),(zi 1),(zi 0),zT,(.t 57)]))]) (y20x11 c))
def y20x13 (c:Nat→FuncId):LCode:=(.seq (.sq [(zs 53 (.mv false (.t 1))),(zs 54 (.call (.f (c 2)) [(.c (.int .i64 (-9)))])),(zs 55 (.call (.f (c 4)) [(.t 53),(zi 1),(zi 2),zF,(.t 54)]))]) (y20x12 c))
def y20x14 (c:Nat→FuncId):LCode:=(.seq (.sq [(zs 51 (.mv false (.t 1))),(zs 52 (.call (.f (c 5)) [(.t 51),(zi 1),(zi 0)])),(zs 8 (.mv true (.t 52)))]) (y20x13 c))
def y20x15 (c:Nat→FuncId):LCode:=(.seq (.sq [(zs 48 (.mv false (.t 1))),(zs 49 (.call (.f (c 2)) [(zi 5)])),(zs 50 (.call (.f (c 4)) [(.t 48),(zi 1),(zi 1),zT,(.t 49)])),(zs 7 (.mv true (.t 50)))]) (y20x14 c))
def y20x16 (c:Nat→FuncId):LCode:=(.seq (.sq [(zs 45 (.mv false (.t 1))),(zs 46 (.call (.f (c 2)) [(zi 4)])),(zs 47 (.call (.f (c 4)) [(.t 45),(zi 1),(zi 0),zT,(.t 46)])),(zs 6 (.mv true (.t 47)))]) (y20x15 c))
def y20x17 (c:Nat→FuncId):LCode:=(.seq (.sq [(zs 41 (.mv false (.t 1))),(zs 42 (.call (.f (c 2)) [(zi 4)])),(zs 43 (.bsl ⟨1,false,8,(.s (.int .i64 0))⟩ 1 [(0,(zi 0))])),(zs 44 (.call (.f (c 3)) [(.t 41),(zi 1),(.t 42),(.t 43)])),(zs 5 (.mv true (.t 44)))]) (y20x16 c))
def y20x18 (c:Nat→FuncId):LCode:=(.seq (.sq [(zs 37 (.mv false (.t 1))),(zs 38 (.call (.f (c 2)) [(zi 4)])),(zs 39 (.bsl ⟨1,false,8,(.s (.int .i64 0))⟩ 2 [(0,(zi 0)),(1,(zi 2))])),(zs 40 (.call (.f (c 3)) [(.t 37),(zi 1),(.t 38),(.t 39)]))]) (y20x17 c))
def y20x19 (c:Nat→FuncId):LCode:=(.seq (.sq [(zs 33 (.mv false (.t 1))),(zs 34 (.call (.f (c 2)) [(.c (.int .i64 (-1)))])),(zs 35 (.bsl ⟨1,false,8,(.s (.int .i64 0))⟩ 1 [(0,(zi 1))])),(zs 36 (.call (.f (c 3)) [(.t 33),(zi 1),(.t 34),(.t 35)])),(zs 4 (.mv true (.t 36)))]) (y20x18 c))
def y20x20 (c:Nat→FuncId):LCode:=(.seq (.sq [(zs 29 (.mv false (.t 1))),(zs 30 (.call (.f (c 2)) [(zi 0)])),(zs 31 (.bsl ⟨1,false,8,(.s (.int .i64 0))⟩ 2 [(0,(zi 1)),(1,(zi 0))])),(zs 32 (.call (.f (c 3)) [(.t 29),(zi 1),(.t 30),(.t 31)])),(zs 3 (.mv true (.t 32)))]) (y20x19 c))
def y20x21 (c:Nat→FuncId):LCode:=(.seq (.sq [(zs 25 (.mv false (.t 1))),(zs 26 (.call (.f (c 2)) [(zi 0)])),(zs 27 (.bsl ⟨1,false,8,(.s (.int .i64 0))⟩ 1 [(0,(zi 1))])),(zs 28 (.call (.f (c 3)) [(.t 25),(zi 0),(.t 26),(.t 27)])),(zs 2 (.mv true (.t 28)))]) (y20x20 c))
def y20x22 (c:Nat→FuncId):LCode:=(.seq (.sq [(zs 24 (.call (.f (c 1)) [])),(zs 1 (.mv true (.t 24)))]) (y20x21 c))
def y20x23 (c:Nat→FuncId):LCode:=(.seq (.seq (.sq [(zs 22 (.call (.f (c 0)) [])),(zs 23 (.un .not (.t 22)))]) (.cond (.t 23) (.seq (.sq [(zs 0 (.mv true zF))]) .ret) .skip)) (y20x22 c))
def U_hourglasslaw18_CoordKnown (c:Nat→FuncId):=PLift.up (zc (zc (zc (zc (@unfC _ _ (y20x1.eq_1 c)) (@unfC _ _ (y20x2.eq_1 c))) (zc (@unfC _ _ (y20x3.eq_1 c)) (zc (@unfC _ _ (y20x4.eq_1 c)) (@unfC _ _ (y20x5.eq_1 c))))) (zc (zc (@unfC _ _ (y20x6.eq_1 c)) (zc (@unfC _ _ (y20x7.eq_1 c)) (@unfC _ _ (y20x8.eq_1 c)))) (zc (@unfC _ _ (y20x9.eq_1 c)) (zc (@unfC _ _ (y20x10.eq_1 c)) (@unfC _ _ (y20x11.eq_1 c)))))) (zc (zc (zc (@unfC _ _ (y20x12.eq_1 c)) (zc (@unfC _ _ (y20x13.eq_1 c)) (@unfC _ _ (y20x14.eq_1 c)))) (zc (@unfC _ _ (y20x15.eq_1 c)) (zc (@unfC _ _ (y20x16.eq_1 c)) (@unfC _ _ (y20x17.eq_1 c))))) (zc (zc (@unfC _ _ (y20x18.eq_1 c)) (zc (@unfC _ _ (y20x19.eq_1 c)) (@unfC _ _ (y20x20.eq_1 c)))) (zc (@unfC _ _ (y20x21.eq_1 c)) (zc (@unfC _ _ (y20x22.eq_1 c)) (@unfC _ _ (y20x23.eq_1 c)))))))
def C_hourglasslaw18_CoordKnown (c:Nat→FuncId):LFn:=⟨183,[.t 0],(.seq (.sq [(zs 0 (.mv true zF))]) (y20x23 c))⟩
end Go.AM
namespace Go.AM
open Go
open AV renaming undef → uu
set_option maxRecDepth 20000
def AskI (C:CallW) (g:FuncId) (r:Nat) (p:Int→Bool) (S:List (List AV)) (H:List HObj):Prop:=∀(v:Int) (T:List (List AV)) (K:AV→St→Prop),K (.bool (p v)) ⟨S ++ T,H⟩→C (.fn g) [.s (.int .i64 v),.ptr (.stk r) 0] ⟨S ++ T,H⟩ K
def IdxRS (C:CallW) (f:FuncId):Prop:=∀(d:Array Int) (g:FuncId) (r:Nat) (p:Int→Bool) S H (K:AV→St→Prop),d.size≤1000000→r < S.length→AskI C g r p S H→(∀i,i < d.size→p d[i]! = true→(∀m,m < i→p d[m]! = false)→K (.s (.int .i64 (i:Nat))) ⟨S ++ [flat iA d],H⟩)→((∀m,m < d.size→p d[m]! = false)→K (.s (.int .i64 (-1))) ⟨S ++ [flat iA d],H⟩)→C (.fn f) [.row (.stk S.length) 0 d.size d.size,.fn (.func g) [] [.ptr (.stk r) 0]] ⟨S ++ [flat iA d],H⟩ K
set_option maxHeartbeats 4000000 in
theorem IndexFunc_int_spec {C:CallW} (hC:LeC C C) (P:Program):∀(d:Array Int) (g:FuncId) (r:Nat) (p:Int→Bool) S H (K:AV→St→Prop),d.size≤1000000→r < S.length→AskI C g r p S H→(∀i,i < d.size→p d[i]! = true→(∀m,m < i→p d[m]! = false)→K (.s (.int .i64 (i:Nat))) ⟨S ++ [flat iA d],H⟩)→((∀m,m < d.size→p d[m]! = false)→K (.s (.int .i64 (-1))) ⟨S ++ [flat iA d],H⟩)→runL C P C_slices_IndexFunc_int [.row (.stk S.length) 0 d.size d.size,.fn (.func g) [] [.ptr (.stk r) 0]] ⟨S ++ [flat iA d],H⟩ K:=by
  intro d g r p S H K hd hr hask hyes hno
  obtain ⟨N,hN⟩:∃N,d.size=N:=⟨_,rfl⟩
  have hS:(S ++ [flat iA d])[S.length]? = some (flat iA d):=by simp
  rw [hN] at hd hyes hno ⊢
  have hr1:r < S.length + 1:=by omega
  simp only [C_slices_IndexFunc_int,A_,simprocAttr,ne_eq,U_slices_IndexFunc_int.1]
  refine loop_rule hC (α:=Nat) (fun a=>N - a) (fun a=>[.row (.stk S.length) 0 N N,.fn (.func g) [] [.ptr (.stk r) 0],uu,uu,uu,uu,uu,.s (.int .i64 (N:Nat)),.s (.int .i64 (a:Nat)),uu,uu,uu,uu,uu,uu,uu,uu,uu,uu]) (fun _=>S ++ [flat iA d]) (fun a=>H) (fun a=>a≤N∧∀m,m < a→p d[m]! = false) 0 ⟨Nat.zero_le _,fun m h=>by omega⟩ (by simp [keep,zm]) (by rw [List.take_of_length_le (by simp)]) rfl (fun a _=>by simp [AV.under,AV.under.go,hr1]) ?_
  rintro i ⟨hi,hinv⟩ ih
  by_cases h16:i < N
  · have hlt:((i:Int) < (N:Int)):=by omega
    have hw:=wrap_succ (i:=i) (by omega)
    have x1:∀kk:IntKind,indexAddrL (.sl 1) (.row (.stk S.length) 0 N N) (.s (.int kk (i:Int)))=some (.ptr (.stk S.length) i):=fun kk=>ixi h16
    have r1:=ird (H:=H) hS (i:=i) (by omega)
    simp only [C_slices_IndexFunc_int,A_,simprocAttr,ne_eq,U_slices_IndexFunc_int.1,hlt,x1,r1]
    refine hask _ _ _ ?_
    cases hp:p d[i]! with
    | true =>
      simp only [C_slices_IndexFunc_int,A_,simprocAttr,ne_eq,U_slices_IndexFunc_int.1]
      exact hyes i h16 hp hinv
    | false =>
      simp only [C_slices_IndexFunc_int,A_,simprocAttr,ne_eq,U_slices_IndexFunc_int.1,hw]
      exact ih (i + 1) _ _ _ (by omega) ⟨by omega,fun m hm=>by rcases Nat.lt_or_ge m i with h | h; exact hinv m h; rw [show m=i by omega]; exact hp⟩ (by simp [keep,zm]) (by rw [List.take_of_length_le (by simp)]) rfl
  · have hlt:¬((i:Int) < (N:Int)):=by omega
    simp only [C_slices_IndexFunc_int,A_,simprocAttr,ne_eq,U_slices_IndexFunc_int.1,hlt]
    exact hno fun m hm=>hinv m (by omega)
def DelFS (C:CallW) (f:FuncId):Prop:=∀(l:List Int) (g:FuncId) (r:Nat) (p:Int→Bool) S H (K:AV→St→Prop),l≠[]→l.length≤1000000→r < S.length→AskI C g r p S H→K (lstN (l.filter fun v => !p v)) ⟨S,H⟩→C (.fn f) [.list .uniq 1 (l.map iA),.fn (.func g) [] [.ptr (.stk r) 0]] ⟨S,H⟩ K
theorem filter_none {p:Int→Bool} {l:List Int} (h:∀x∈l,p x=false):l.filter (fun v => !p v)=l:=List.filter_eq_self.2 fun x hx=>by rw [h x hx]; rfl
theorem mem_bang {d:Array Int} {p:Int→Bool} {n:Nat} (hn:n≤d.size) (h:∀m,m < n→p d[m]! = false):∀x∈d.toList.take n,p x=false:=by
  intro x hx
  obtain ⟨m,hm,rfl⟩:=List.mem_iff_getElem.1 hx
  rw [List.length_take] at hm
  rw [List.getElem_take,←get_bang (d:=d) (by omega)]
  exact h m (by omega)
set_option maxHeartbeats 8000000 in
theorem DeleteFunc_spec {C:CallW} (hC:LeC C C) (P:Program) {c:Nat→FuncId} (h0:IdxRS C (c 0)):∀(l:List Int) (g:FuncId) (r:Nat) (p:Int→Bool) S H (K:AV→St→Prop),l≠[]→l.length≤1000000→r < S.length→AskI C g r p S H→K (lstN (l.filter fun v => !p v)) ⟨S,H⟩→runL C P (C_slices_DeleteFunc_int c) [.list .uniq 1 (l.map iA),.fn (.func g) [] [.ptr (.stk r) 0]] ⟨S,H⟩ K:=by
  intro l g r p S H K hne hl hr hask hK
  have hu:slZ l = .list .uniq 1 (l.map iA):=if_neg hne
  simp only [C_slices_DeleteFunc_int,A_,simprocAttr,ne_eq,(U_slices_DeleteFunc_int _).1]
  rw [thaw_slZ (l:=l) hne (by rw [hu]; rfl)]
  obtain ⟨N,hN⟩:∃N,l.length=N:=⟨_,rfl⟩
  have hd:(arrZ l).size=N:=hN
  have hdl:(arrZ l).toList=l:=rfl
  rw [hN] at hl
  rw [hN]
  generalize arrZ l=d at hd hdl ⊢
  have hS:(S ++ [flat iA d])[S.length]? = some (flat iA d):=by simp
  have hr1:r < S.length + 1:=by omega
  have hN0:0 < N:=by rw [←hN]; exact List.length_pos_iff.2 hne
  simp only [C_slices_DeleteFunc_int,A_,simprocAttr,ne_eq,(U_slices_DeleteFunc_int _).1,List.set_cons_zero,List.set_cons_succ]
  have h0':=h0 d g r p S H
  rw [hd] at h0'
  refine h0' _ hl hr hask (fun i hi hp hlt => ?_) (fun hno => ?_)
  case' _ =>
    have hne1:(((i:Nat):Int) = -1)=False:=eq_false (by omega)
    have hw:=wrap_succ (i:=i) (by omega)
    simp only [C_slices_DeleteFunc_int,A_,simprocAttr,ne_eq,(U_slices_DeleteFunc_int _).1,hne1,hw]
    refine loop_rule hC (α:=Nat×Nat×Array Int) (fun x=>N - x.2.1) (fun x=>[.row (.stk S.length) 0 N N,.fn (.func g) [] [.ptr (.stk r) 0],uu,uu,uu,.s (.int .i64 (x.1:Nat)),.s (.int .i64 (x.2.1:Nat)),uu,uu,uu,uu,uu,uu,uu,uu,uu,uu,uu,uu,uu,uu,uu,uu,uu,uu,uu,uu,uu,uu,uu,uu,uu,uu,uu,uu,uu,uu,uu,uu,uu,uu,uu]) (fun x=>S ++ [flat iA x.2.2]) (fun _=>H) (fun x=>x.1 < x.2.1∧x.2.1≤N∧x.2.2.size=N∧(∀m,x.2.1≤m→m < N→x.2.2[m]! = d[m]!)∧x.2.2.toList.take x.1=(l.take x.2.1).filter fun v => !p v) (i,i + 1,d) ⟨by dsimp only; omega,by dsimp only; omega,hd,fun _ _ _=>rfl,?_⟩ (by simp [keep,zm]) (by rw [List.take_of_length_le (by simp)]) rfl (fun x _=>by simp [AV.under,AV.under.go,hr1]) ?_
    · dsimp only
      have q:=mem_bang (d:=d) (p:=p) (n:=i) (by omega) hlt
      have e1:l.take (i + 1)=d.toList.take i ++ [d[i]!]:=by rw [←hdl]; exact take_at (by omega)
      rw [e1,List.filter_append,filter_none q]
      simp [hp]
    rintro ⟨w,j,e⟩ ⟨hwj,hj,hes,hsame,hinv⟩ ih
    dsimp only at hwj hj hes hsame hinv ih ⊢
    have hSe:(S ++ [flat iA e])[S.length]? = some (flat iA e):=by simp
    by_cases hjN:j < N
    · have hlt3:((j:Int) < (N:Int)):=by omega
      have hwj1:=wrap_succ (i:=j) (by omega)
      have hww:=wrap_succ (i:=w) (by omega)
      have x1:∀kk:IntKind,indexAddrL (.sl 1) (.row (.stk S.length) 0 N N) (.s (.int kk (j:Int)))=some (.ptr (.stk S.length) j):=fun kk=>ixi hjN
      have r1:=ird (H:=H) hSe (i:=j) (by omega)
      rw [hsame j (Nat.le_refl _) hjN] at r1
      have e1:l.take (j + 1)=l.take j ++ [d[j]!]:=by
        have:=take_at (d:=d) (m:=j) (by omega)
        rw [hdl] at this
        exact this
      simp only [C_slices_DeleteFunc_int,A_,simprocAttr,ne_eq,(U_slices_DeleteFunc_int _).1,hlt3,x1,r1]
      refine hask d[j]! [flat iA e] _ ?_
      cases hpj:p d[j]! with
      | true =>
        simp only [C_slices_DeleteFunc_int,A_,simprocAttr,ne_eq,(U_slices_DeleteFunc_int _).1,hwj1]
        refine ih (w,j + 1,e) _ _ _ (by dsimp only; omega) ⟨by dsimp only; omega,by dsimp only; omega,hes,fun m h1 h2=>hsame m (by dsimp only at h1; omega) h2,?_⟩ (by simp [keep,zm]) (by rw [List.take_of_length_le (by simp)]) rfl
        dsimp only
        rw [hinv,e1,List.filter_append]
        simp [hpj]
      | false =>
        have x3:∀kk:IntKind,indexAddrL (.sl 1) (.row (.stk S.length) 0 N N) (.s (.int kk (w:Int)))=some (.ptr (.stk S.length) w):=fun kk=>ixi (by omega)
        have w1:=iwr (H:=H) (x:=d[j]!) hSe (i:=w) (by omega)
        simp only [C_slices_DeleteFunc_int,A_,simprocAttr,ne_eq,(U_slices_DeleteFunc_int _).1,hwj1,hww,x3,w1]
        refine ih (w + 1,j + 1,e.setIfInBounds w d[j]!) _ _ _ (by dsimp only; omega) ⟨by dsimp only; omega,by dsimp only; omega,by simpa using hes,fun m h1 h2 => ?_,?_⟩ (by simp [keep,zm]) (by rw [List.take_of_length_le (by simp)]) rfl
        · dsimp only at h1 ⊢
          rw [←hsame m (by omega) h2]
          simp only [Array.getElem!_eq_getD,Array.getD_eq_getD_getElem?,Array.getElem?_setIfInBounds]
          rw [if_neg (by omega)]
        · dsimp only
          have hwe:w < e.size:=by omega
          rw [e1,List.filter_append,←hinv,take_at (by simpa using hwe)]
          congr 1
          · rw [Array.toList_setIfInBounds,List.take_set_of_le (Nat.le_refl _)]
          · simp only [Array.getElem!_eq_getD,Array.getD_eq_getD_getElem?,Array.getElem?_setIfInBounds]
            have hpj':p (d[j]?.getD 0)=false:=by simpa [Array.getElem!_eq_getD,Array.getD_eq_getD_getElem?] using hpj
            simp [hwe,hpj']
    · have hlt3:¬((j:Int) < (N:Int)):=by omega
      have s2:∀ki:IntKind,sliceL (.sl 1) (.row (.stk S.length) 0 N N) (some (.s (.int ki (w:Int)))) none none=some (.row (.stk S.length) w (N - w) (N - w)):=fun ki=>slr_lo (by omega)
      have c1:=clr_i (H:=H) (et:=⟨1,false,8,.s (.int .i64 0)⟩) rfl hSe hes (k:=w) (by omega)
      have hset:∀x y:List AV,(S ++ [x]).set S.length y=S ++ [y]:=fun x y=>by simp
      rw [hset] at c1
      have hel:e.toList.length=N:=by simpa using hes
      generalize hZ:(e.toList.take w ++ List.replicate (N - w) 0)=Z at c1
      have hZl:Z.length=N:=by rw [←hZ]; simp; omega
      have hS3:(S ++ [flat iA Z.toArray])[S.length]? = some (flat iA Z.toArray):=by simp
      have hf:∀{et:ET},et.c=1→et.ag=false→freezeL et (.row (.stk S.length) 0 N N) _=_:=fun h1 h2=>freeze_i (H:=H) h1 h2 hS3 (k:=N) (N:=N) (by show N≤Z.length; omega)
      rw [show Z.toArray.toList.take N=Z from List.take_of_length_le (by show Z.length≤N; omega)] at hf
      have s3:∀ki:IntKind,sliceL (.sl 1) (.list .sh 1 (Z.map iA)) none (some (.s (.int ki (w:Int)))) none=some (.list .sh 1 ((Z.take w).map iA)):=fun ki=>by rw [slc_hi (by rw [List.length_map]; omega),List.map_take]
      simp only [C_slices_DeleteFunc_int,A_,simprocAttr,ne_eq,(U_slices_DeleteFunc_int _).1,hlt3,s2,c1,hf,s3]
      have:Z.take w=l.filter fun v => !p v:=by
        rw [←hZ,List.take_left' (by simp; omega),hinv,List.take_of_length_le (by omega)]
      rw [this]
      exact hK
  case' _ =>
    have hf:∀{et:ET},et.c=1→et.ag=false→freezeL et (.row (.stk S.length) 0 N N) _=_:=fun h1 h2=>freeze_i (H:=H) h1 h2 hS (k:=N) (N:=N) (by rw [hd]; exact Nat.le_refl _)
    rw [List.take_of_length_le (by simp [hd])] at hf
    simp only [C_slices_DeleteFunc_int,A_,simprocAttr,ne_eq,(U_slices_DeleteFunc_int _).1,hf]
    rw [hdl]
    have q:=mem_bang (d:=d) (p:=p) (n:=N) (by omega) hno
    rw [hdl,List.take_of_length_le (by omega)] at q
    rw [filter_none q] at hK
    exact hK
end Go.AM
namespace Go.AM
open Go
open AV renaming undef → uu
set_option maxRecDepth 20000
theorem ixl_n {l:List Int} {i:Nat} (h:i < l.length) (k:IntKind):indexAddrL (.sl 1) (.list .sh 1 (l.map pI)) (.s (.int k (i:Int)))=some (.rop [.s (.int .i64 l[i])]):=ixl_map h (by omega)
def SameIS (C:CallW) (f:FuncId):Prop:=∀(a b:List Int) S H (K:AV→St→Prop),a.length≤1000000→b.length≤1000000→K (.bool (decide (a=b))) ⟨S,H⟩→C (.fn f) [lstN a,lstN b] ⟨S,H⟩ K
set_option maxHeartbeats 4000000 in
theorem sameI_spec {C:CallW} (hC:LeC C C) (P:Program):∀(a b:List Int) S H (K:AV→St→Prop),a.length≤1000000→b.length≤1000000→K (.bool (decide (a=b))) ⟨S,H⟩→runL C P C_hourglasslaw17_same [lstN a,lstN b] ⟨S,H⟩ K:=by
  intro a b S H K ha hb hK
  by_cases hl:a.length=b.length
  case neg =>
    have hl':((a.length:Int)=(b.length:Int))=False:=eq_false (by omega)
    rw [decide_eq_false (fun e=>hl (by rw [e]))] at hK
    simp only [lstN,C_hourglasslaw17_same,A_,simprocAttr,ne_eq,U_hourglasslaw17_same.1,hl']
    exact hK
  have hl':((a.length:Int)=(b.length:Int))=True:=eq_true (by omega)
  simp only [lstN,C_hourglasslaw17_same,A_,simprocAttr,ne_eq,U_hourglasslaw17_same.1,hl']
  refine loop_rule hC (α:=Nat) (fun x=>a.length - x) (fun x=>[.list .sh 1 (a.map pI),.list .sh 1 (b.map pI),uu,uu,uu,.s (.int .i64 (x:Nat)),uu,uu,uu,uu,uu,uu,uu,uu,uu,uu,uu,uu,uu,uu,uu,uu,uu,uu,uu,uu]) (fun _=>S) (fun _=>H) (fun i=>i≤a.length∧a.take i=b.take i) 0 ⟨by simp,rfl⟩ (by simp [keep,zm]) (by simp) rfl (fun i hi=>by simp [AV.under,AV.under.go]) ?_
  rintro i ⟨hi,hinv⟩ ih
  by_cases h16:i < a.length
  · have h17:i < b.length:=by omega
    have hlt:((i:Int) < (a.length:Int)):=by omega
    have hw:=wrap_succ (i:=i) (by omega)
    have x1:=ixl_n h16
    have x2:=ixl_n h17
    simp only [C_hourglasslaw17_same,A_,simprocAttr,ne_eq,U_hourglasslaw17_same.1,hlt,x1,x2]
    by_cases he:a[i]=b[i]
    · have he':(a[i]=b[i])=True:=eq_true he
      simp only [C_hourglasslaw17_same,A_,simprocAttr,ne_eq,U_hourglasslaw17_same.1,he',hw]
      exact ih (i + 1) _ _ _ (by omega) ⟨by omega,by rw [List.take_succ_eq_append_getElem h16,List.take_succ_eq_append_getElem h17,hinv,he]⟩ (by simp [keep,zm]) (by simp) rfl
    · have he':(a[i]=b[i])=False:=eq_false he
      rw [decide_eq_false (fun e=>he (by subst e; rfl))] at hK
      simp only [C_hourglasslaw17_same,A_,simprocAttr,ne_eq,U_hourglasslaw17_same.1,he']
      exact hK
  · have hlt:¬((i:Int) < (a.length:Int)):=by omega
    rw [List.take_of_length_le (by omega),List.take_of_length_le (by omega)] at hinv
    rw [decide_eq_true hinv] at hK
    simp only [C_hourglasslaw17_same,A_,simprocAttr,ne_eq,U_hourglasslaw17_same.1,hlt]
    exact hK
def IdxIS (C:CallW) (f:FuncId):Prop:=∀(l:List Int) (v:Int) S H (K:AV→St→Prop),l.length≤1000000→(∀r:Int,(0≤r↔v∈l)→K (.s (.int .i64 r)) ⟨S,H⟩)→C (.fn f) [lstN l,.s (.int .i64 v)] ⟨S,H⟩ K
set_option maxHeartbeats 4000000 in
theorem Index_int_spec {C:CallW} (hC:LeC C C) (P:Program):∀(l:List Int) (v:Int) S H (K:AV→St→Prop),l.length≤1000000→(∀r:Int,(0≤r↔v∈l)→K (.s (.int .i64 r)) ⟨S,H⟩)→runL C P C_slices_Index_int [lstN l,.s (.int .i64 v)] ⟨S,H⟩ K:=by
  intro l v S H K hl hK
  simp only [lstN,C_slices_Index_int,A_,simprocAttr,ne_eq,U_slices_Index_int.1]
  refine loop_rule hC (α:=Nat) (fun a=>l.length - a) (fun a=>[.list .sh 1 (l.map pI),.s (.int .i64 v),uu,uu,uu,uu,uu,.s (.int .i64 l.length),.s (.int .i64 (a:Nat)),uu,uu,uu,uu,uu,uu,uu,uu,uu,uu]) (fun _=>S) (fun a=>H) (fun a=>a≤l.length∧(v∈l↔v∈l.drop a)) 0 ⟨Nat.zero_le _,Iff.rfl⟩ (by simp [keep,zm]) (by simp) rfl (fun a _=>by simp [AV.under,AV.under.go]) ?_
  rintro i ⟨hi,hinv⟩ ih
  by_cases h16:i < l.length
  · have hlt:((i:Int) < (l.length:Int)):=by omega
    have hw:=wrap_succ (i:=i) (by omega)
    have x1:=ixl_n h16
    rw [List.drop_eq_getElem_cons h16,List.mem_cons] at hinv
    by_cases he:v=l[i]
    · have he':(v=l[i])=True:=eq_true he
      simp only [C_slices_Index_int,A_,simprocAttr,ne_eq,U_slices_Index_int.1,hlt,x1,he']
      exact hK _ ⟨fun _=>hinv.2 (.inl he),fun _=>by omega⟩
    · have he':(v=l[i])=False:=eq_false he
      simp only [C_slices_Index_int,A_,simprocAttr,ne_eq,U_slices_Index_int.1,hlt,x1,he',hw]
      exact ih (i + 1) _ _ _ (by omega) ⟨by omega,hinv.trans ⟨fun h=>h.resolve_left he,.inr⟩⟩ (by simp [keep,zm]) (by simp) rfl
  · have hlt:¬((i:Int) < (l.length:Int)):=by omega
    rw [List.drop_of_length_le (by omega)] at hinv
    simp only [C_slices_Index_int,A_,simprocAttr,ne_eq,U_slices_Index_int.1,hlt]
    exact hK _ ⟨fun h=>absurd h (by decide),fun h=>by have:=hinv.1 h; cases this⟩
def ContIS (C:CallW) (f:FuncId):Prop:=∀(l:List Int) (v:Int) S H (K:AV→St→Prop),l.length≤1000000→K (.bool (decide (v∈l))) ⟨S,H⟩→C (.fn f) [lstN l,.s (.int .i64 v)] ⟨S,H⟩ K
theorem Contains_int_spec {C:CallW} (P:Program) {c:Nat→FuncId} (h0:IdxIS C (c 0)):∀(l:List Int) (v:Int) S H (K:AV→St→Prop),l.length≤1000000→K (.bool (decide (v∈l))) ⟨S,H⟩→runL C P (C_slices_Contains_int c) [lstN l,.s (.int .i64 v)] ⟨S,H⟩ K:=by
  intro l v S H K hl hK
  simp only [lstN,C_slices_Contains_int,A_,simprocAttr,ne_eq,(U_slices_Contains_int _).1]
  refine h0 l v _ _ _ hl fun r hr => ?_
  by_cases h:v∈l
  · rw [decide_eq_true h] at hK
    have h1:(0≤r)=True:=eq_true (hr.2 h)
    simp only [C_slices_Contains_int,A_,simprocAttr,ne_eq,(U_slices_Contains_int _).1,h1]
    exact hK
  · rw [decide_eq_false h] at hK
    have h1:(0≤r)=False:=eq_false fun q=>h (hr.1 q)
    simp only [C_slices_Contains_int,A_,simprocAttr,ne_eq,(U_slices_Contains_int _).1,h1]
    exact hK
def CloneIS (C:CallW) (f:FuncId):Prop:=∀(l:List Int) S H (K:AV→St→Prop),l≠[]→l.length≤1000000→K (.list .uniq 1 (l.map iA)) ⟨S,H⟩→C (.fn f) [lstN l] ⟨S,H⟩ K
theorem iA_low:∀l:List Int,AV.under.go 0 (l.map iA)=true
  | []=>rfl
  | x :: l=>iA_low l
theorem appI0 {e:ET} {σ:St} (h1:e.c=1) (h2:e.bytes=8) {l:List Int} (hne:l≠[]) (hl:l.length≤1000000):appendL e false (.list .full 1 []) (.list .sh 1 (l.map pI)) σ=some (.list .uniq 1 (l.map iA),σ):=by
  have he:elemsL e (.list .sh 1 (l.map pI)) σ=some (l.map pI):=by simp [elemsL,h1]
  have hlow:AV.under.go 0 (l.map pI)=true:=iA_low l
  unfold appendL
  simp only [srcL,AV.isSlice,if_true,he,Option.bind_some,AV.under,hlow,appItems,h1,h2,ne_eq,not_true_eq_false,if_false]
  rw [if_neg (by simp [hne]),if_pos (by simp),if_pos (by simp; omega)]
  rfl
theorem Clone_int_spec {C:CallW} (P:Program):∀(l:List Int) S H (K:AV→St→Prop),l≠[]→l.length≤1000000→K (.list .uniq 1 (l.map iA)) ⟨S,H⟩→runL C P C_slices_Clone_int [lstN l] ⟨S,H⟩ K:=by
  intro l S H K hne hl hK
  have ha:∀{e:ET} {σ:St},e.c=1→e.bytes=8→appendL e false (.list .full 1 []) (.list .sh 1 (l.map pI)) σ=some (.list .uniq 1 (l.map iA),σ):=fun h1 h2=>appI0 h1 h2 hne hl
  cases l with
  | nil=>exact absurd rfl hne
  | cons k l =>
    simp only [List.map_cons] at ha hK
    simp only [lstN,List.map_cons,C_slices_Clone_int,A_,simprocAttr,ne_eq,U_slices_Clone_int.1,refEq,ha]
    exact hK
def CloneIH (C:CallW) (f:FuncId):Prop:=∀(l:List Int) S H (K:AV→St→Prop),l≠[]→l.length≤1000000→K (lstN l) ⟨S,H⟩→C (.fn f) [lstN l] ⟨S,H⟩ K
def maxS (a b:Stp):Stp:=if cmpS a b < 0 then b else a
def MaxS (C:CallW) (f:FuncId):Prop:=∀(a b:Stp) S H (K:AV→St→Prop),K (.agg (stc (maxS a b))) ⟨S,H⟩→C (.fn f) [.agg (stc a),.agg (stc b)] ⟨S,H⟩ K
theorem stamp_Max_spec {C:CallW} (P:Program) {c:Nat→FuncId} (h0:CmpSS C (c 0)):∀(a b:Stp) S H (K:AV→St→Prop),K (.agg (stc (maxS a b))) ⟨S,H⟩→runL C P (C_stamp_Max c) [.agg (stc a),.agg (stc b)] ⟨S,H⟩ K:=by
  intro a b S H K hK
  unfold maxS at hK
  simp only [stc,C_stamp_Max,A_,simprocAttr,ne_eq,(U_stamp_Max _).1]
  refine h0 a b _ _ _ ?_
  by_cases h:cmpS a b < 0
  · rw [if_pos h] at hK
    simp only [C_stamp_Max,A_,simprocAttr,ne_eq,(U_stamp_Max _).1,h]
    exact hK
  · rw [if_neg h] at hK
    simp only [C_stamp_Max,A_,simprocAttr,ne_eq,(U_stamp_Max _).1,h]
    exact hK
end Go.AM
namespace Go.AM
open Go
set_option maxRecDepth 20000
structure Dx where
  snap:Stp
  parts:List Int
  votes:List Int
  known:Bool
  yes:Bool
  st:Stp
  acked:List Int
def dxc (x:Dx) (hv ha:Nat):List AV:=[.s (.int .i64 x.snap.t),u8 x.snap.n,.list .sh 1 (x.parts.map pI),.map hv,.bool x.known,.bool x.yes,.s (.int .i64 x.st.t),u8 x.st.n,.map ha]
def ptB (p:Int×Nat):AV := .ptr (.heap p.2) 0
def tB (_:Int):AV := .bool true
structure DxOk (x:Dx):Prop where
  ne:x.parts≠[]
  len:x.parts.length≤1000000
  vn:x.votes.Nodup
  an:x.acked.Nodup
structure CoE (H:List HObj) (h hm:Nat):Prop where
  at0:H[h]? = some (.cells [.map hm])
  atm:H[hm]? = some (.map [] 0)
  ne:h≠hm
structure CoX (H:List HObj) (h hm:Nat) (id:Int) (b hv ha:Nat) (x:Dx):Prop where
  at0:H[h]? = some (.cells [.map hm])
  atm:∃es c,H[hm]? = some (.map es c)∧MapG iA Prod.fst ptB es c [(id,b)]
  atb:H[b]? = some (.cells (dxc x hv ha))
  atv:∃es c,H[hv]? = some (.map es c)∧MapG iA (fun i=>i) tB es c x.votes
  ata:∃es c,H[ha]? = some (.map es c)∧MapG iA (fun i=>i) tB es c x.acked
  ok:DxOk x
  n1:b≠h
  n2:b≠hm
  n3:hv≠h
  n4:hv≠hm
  n5:hv≠b
  n6:ha≠h
  n7:ha≠hm
  n8:ha≠b
  n9:ha≠hv
def Keep (H H':List HObj) (l:List Nat):Prop:=H.length≤H'.length∧∀i,i < H.length→i∉l→H'[i]? = H[i]?
theorem Keep.refl {H:List HObj} {l:List Nat}:Keep H H l:=⟨Nat.le_refl _,fun _ _ _=>rfl⟩
theorem Keep.trans {H H' H'':List HObj} {l:List Nat} (a:Keep H H' l) (b:Keep H' H'' l):Keep H H'' l :=
  ⟨Nat.le_trans a.1 b.1,fun i hi e=>(b.2 i (Nat.lt_of_lt_of_le hi a.1) e).trans (a.2 i hi e)⟩
theorem Keep.app {H G:List HObj} {l:List Nat}:Keep H (H ++ G) l:=⟨by simp,fun i hi _=>List.getElem?_append_left hi⟩
theorem Keep.set {H:List HObj} {j:Nat} {o:HObj} {l:List Nat} (hj:j∈l):Keep H (H.set j o) l:=⟨by simp,fun i _ e=>List.getElem?_set_ne fun q:j=i=>e (q▸hj)⟩
theorem Keep.fresh {H G:List HObj} {j:Nat} {o:HObj} {l:List Nat} (hj:H.length≤j):Keep H ((H ++ G).set j o) l:=⟨by simp,fun i hi e=>by rw [List.getElem?_set_ne (by omega),List.getElem?_append_left hi]⟩
theorem Keep.get {H H':List HObj} {l:List Nat} {q:Nat} {o:HObj} (x:Keep H H' l) (e:H[q]? = some o) (h:q∉l):H'[q]? = some o:=by
  rw [x.2 q (hlt e) h]; exact e
theorem Keep.mono {H H':List HObj} {l m:List Nat} (x:Keep H H' l) (h:∀i∈l,i∈m∨H.length≤i):Keep H H' m:=⟨x.1,fun i hi e=>x.2 i hi fun q=>by rcases h i q with h | h; exact e h; omega⟩
theorem CoX.keep {H H':List HObj} {h hm b hv ha:Nat} {id:Int} {x:Dx} {l:List Nat} (t:CoX H h hm id b hv ha x) (k:Keep H H' l) (e:∀i∈[h,hm,b,hv,ha],i∉l):CoX H' h hm id b hv ha x:=by
  obtain ⟨a0,⟨e1,c1,a1,g1⟩,a2,⟨e3,c3,a3,g3⟩,⟨e4,c4,a4,g4⟩,ok,n1,n2,n3,n4,n5,n6,n7,n8,n9⟩:=t
  exact ⟨k.get a0 (e _ (by simp)),⟨e1,c1,k.get a1 (e _ (by simp)),g1⟩,k.get a2 (e _ (by simp)),⟨e3,c3,k.get a3 (e _ (by simp)),g3⟩,⟨e4,c4,k.get a4 (e _ (by simp)),g4⟩,ok,n1,n2,n3,n4,n5,n6,n7,n8,n9⟩
theorem CoX.app {H G:List HObj} {h hm b hv ha:Nat} {id:Int} {x:Dx} (t:CoX H h hm id b hv ha x):CoX (H ++ G) h hm id b hv ha x:=t.keep (l:=[]) .app fun _ _ h=>by cases h
theorem CoX.setb {H:List HObj} {h hm b hv ha:Nat} {id:Int} {x y:Dx} (t:CoX H h hm id b hv ha x) (ok:DxOk y) (e1:y.votes=x.votes) (e2:y.acked=x.acked):CoX (H.set b (.cells (dxc y hv ha))) h hm id b hv ha y:=by
  obtain ⟨a0,⟨e1',c1,a1,g1⟩,a2,⟨e3,c3,a3,g3⟩,⟨e4,c4,a4,g4⟩,_,n1,n2,n3,n4,n5,n6,n7,n8,n9⟩:=t
  rw [←e1] at g3
  rw [←e2] at g4
  exact ⟨hset n1 a0,⟨e1',c1,hset n2 a1,g1⟩,hself a2,⟨e3,c3,hset n5.symm a3,g3⟩,⟨e4,c4,hset n8.symm a4,g4⟩,ok,n1,n2,n3,n4,n5,n6,n7,n8,n9⟩
theorem CoX.setv {H:List HObj} {h hm b hv ha c:Nat} {es:List Entry} {id:Int} {x:Dx} {vs:List Int} (t:CoX H h hm id b hv ha x) (g:MapG iA (fun i=>i) tB es c vs) (hn:vs.Nodup):CoX (H.set hv (.map es c)) h hm id b hv ha { x with votes:=vs }:=by
  obtain ⟨a0,⟨e1',c1,a1,g1⟩,a2,⟨e3,c3,a3,g3⟩,⟨e4,c4,a4,g4⟩,ok,n1,n2,n3,n4,n5,n6,n7,n8,n9⟩:=t
  exact ⟨hset n3 a0,⟨e1',c1,hset n4 a1,g1⟩,hset n5 a2,⟨es,c,hself a3,g⟩,⟨e4,c4,hset n9.symm a4,g4⟩,⟨ok.ne,ok.len,hn,ok.an⟩,n1,n2,n3,n4,n5,n6,n7,n8,n9⟩
theorem CoX.seta {H:List HObj} {h hm b hv ha c:Nat} {es:List Entry} {id:Int} {x:Dx} {vs:List Int} (t:CoX H h hm id b hv ha x) (g:MapG iA (fun i=>i) tB es c vs) (hn:vs.Nodup):CoX (H.set ha (.map es c)) h hm id b hv ha { x with acked:=vs }:=by
  obtain ⟨a0,⟨e1',c1,a1,g1⟩,a2,⟨e3,c3,a3,g3⟩,⟨e4,c4,a4,g4⟩,ok,n1,n2,n3,n4,n5,n6,n7,n8,n9⟩:=t
  exact ⟨hset n6 a0,⟨e1',c1,hset n7 a1,g1⟩,hset n8 a2,⟨e3,c3,hset n9 a3,g3⟩,⟨es,c,hself a4,g⟩,⟨ok.ne,ok.len,ok.vn,hn⟩,n1,n2,n3,n4,n5,n6,n7,n8,n9⟩
theorem CoX.look {S:List (List AV)} {H:List HObj} {h hm b hv ha:Nat} {id:Int} {x:Dx} (t:CoX H h hm id b hv ha x) (i:Int):lookupL (.one (.int .i64)) (.s .nilP) false (.map hm) (.s (.int .i64 i)) ⟨S,H⟩=some (if id=i then .ptr (.heap b) 0 else .s .nilP):=by
  obtain ⟨es,c,a,g⟩:=t.atm
  have:=map_look keyK_int (S:=S) (k:=i) (z := .s .nilP) (ok:=false) a g.rel
  rw [show iA i=AV.s (.int .i64 i) from rfl] at this
  rw [this]
  unfold getB
  rw [List.find?_cons]
  by_cases e:id=i
  · rw [if_pos e]; simp [e,lookR,ptB]
  · rw [if_neg e]; simp [e,lookR]
theorem CoE.look {S:List (List AV)} {H:List HObj} {h hm:Nat} (t:CoE H h hm) (i:Int):lookupL (.one (.int .i64)) (.s .nilP) false (.map hm) (.s (.int .i64 i)) ⟨S,H⟩=some (.s .nilP):=by
  have:=map_look keyK_int (S:=S) (k:=i) (z := .s .nilP) (ok:=false) (l:=([]:List (Int×Nat))) (kp:=Prod.fst) (vf:=ptB) t.atm rfl
  rw [show iA i=AV.s (.int .i64 i) from rfl] at this
  rw [this]; rfl
theorem look_b {S:List (List AV)} {H:List HObj} {hv:Nat} {vs:List Int} (a:∃es c,H[hv]? = some (.map es c)∧MapG iA (fun i=>i) tB es c vs) (v:Int):lookupL (.one (.int .i64)) (.s (.bool false)) false (.map hv) (.s (.int .i64 v)) ⟨S,H⟩=some (.bool (decide (v∈vs))):=by
  obtain ⟨es,c,a,g⟩:=a
  have:=map_look keyK_int (S:=S) (k:=v) (z := .s (.bool false)) (ok:=false) a g.rel
  rw [show iA v=AV.s (.int .i64 v) from rfl] at this
  rw [this]
  cases hg:getB (fun i=>i) vs v with
  | none =>
    have:=getB_none hg
    rw [decide_eq_false fun q=>this v q rfl]; rfl
  | some y =>
    obtain ⟨q1,q2⟩:=getB_mem hg
    have q2:y=v:=q2
    subst q2
    rw [decide_eq_true q1]; rfl
theorem len_b {S:List (List AV)} {H:List HObj} {hv:Nat} {vs:List Int} (a:∃es c,H[hv]? = some (.map es c)∧MapG iA (fun i=>i) tB es c vs):lenL .map (.map hv) ⟨S,H⟩=some vs.length:=by
  obtain ⟨es,c,a,g⟩:=a
  have hlen:es.length=vs.length:=by have:=congrArg List.length g.rel; simpa [RelM] using this
  simp [lenL,mapOf,a,hlen]
theorem st1h {S:List (List AV)} {H:List HObj} {b off:Nat} {cs:List AV} {v:AV} (hb:H[b]? = some (.cells cs)) (h1:off < cs.length) (h2:v.cells=[v]) (h3:v.fit=true) (h4:AV.under 0 v=true):storeL 1 (.ptr (.heap b) off) v ⟨S,H⟩=some ⟨S,H.set b (.cells (cs.set off v))⟩:=by
  have hbo:boxOf ⟨S,H⟩ (.heap b)=some cs:=by simp [boxOf,hb]
  simp [storeL,h2,h3,writeCells,hbo,mayHold,AV.under.go,h4,splice,setBox]
  omega
theorem st2h {S:List (List AV)} {H:List HObj} {b off:Nat} {cs:List AV} {v w:AV} (hb:H[b]? = some (.cells cs)) (h1:off + 2≤cs.length) (h4:AV.under 0 v=true) (h5:AV.under 0 w=true):storeL 2 (.ptr (.heap b) off) (.agg [v,w]) ⟨S,H⟩=some ⟨S,H.set b (.cells (cs.take off ++ [v,w] ++ cs.drop (off + 2)))⟩:=by
  have hbo:boxOf ⟨S,H⟩ (.heap b)=some cs:=by simp [boxOf,hb]
  simp [storeL,AV.cells,AV.fit,writeCells,hbo,mayHold,AV.under.go,h4,h5,splice,setBox]
  omega
end Go.AM
namespace Go.AM
open Go
set_option maxRecDepth 20000
theorem re0:refEq 0 (.s .nilP) (.s .nilP)=some true:=rfl
theorem re1 {n:Nat}:refEq 0 (.ptr (.heap n) 0) (.s .nilP)=some false:=rfl
def NewCS (C:CallW) (f:FuncId):Prop:=∀S H (K:AV→St→Prop),K (.ptr (.heap (H.length + 1)) 0) ⟨S,H ++ [.map [] 0,.cells [.map H.length]]⟩→C (.fn f) [] ⟨S,H⟩ K
theorem newC {H:List HObj}:CoE (H ++ [.map [] 0,.cells [.map H.length]]) (H.length + 1) H.length:=⟨by simp,by simp,by omega⟩
theorem coord_New_spec {C:CallW} (P:Program):∀S H (K:AV→St→Prop),K (.ptr (.heap (H.length + 1)) 0) ⟨S,H ++ [.map [] 0,.cells [.map H.length]]⟩→runL C P C_coord_New [] ⟨S,H⟩ K:=by
  intro S H K hK
  simp only [C_coord_New,A_,simprocAttr,ne_eq,U_coord_New.1]
  exact hK
def dx0 (x:Dx):List AV:=[.s (.int .i64 x.snap.t),u8 x.snap.n,.list .sh 1 (x.parts.map pI),.s .nilM,.bool x.known,.bool x.yes,.s (.int .i64 x.st.t),u8 x.st.n,.s .nilM]
def AddCS (C:CallW) (f:FuncId):Prop:=∀(h hm b:Nat) (id:Int) (x:Dx) S H (K:AV→St→Prop),CoE H h hm→H[b]? = some (.cells (dx0 x))→b≠h→b≠hm→DxOk x→x.votes=[]→x.acked=[]→(∀H',Keep H H' [b,hm]→CoX H' h hm id b H.length (H.length + 1) x→K (.tup []) ⟨S,H'⟩)→C (.fn f) [.ptr (.heap h) 0,.s (.int .i64 id),.ptr (.heap b) 0] ⟨S,H⟩ K
set_option maxHeartbeats 4000000 in
theorem coord_add_spec {C:CallW} (P:Program):∀(h hm b:Nat) (id:Int) (x:Dx) S H (K:AV→St→Prop),CoE H h hm→H[b]? = some (.cells (dx0 x))→b≠h→b≠hm→DxOk x→x.votes=[]→x.acked=[]→(∀H',Keep H H' [b,hm]→CoX H' h hm id b H.length (H.length + 1) x→K (.tup []) ⟨S,H'⟩)→runL C P C_coord_Coord_add [.ptr (.heap h) 0,.s (.int .i64 id),.ptr (.heap b) 0] ⟨S,H⟩ K:=by
  intro h hm b id x S H K t hb nb nbm ok hv0 ha0 hK
  have a0:=t.at0
  have am:=t.atm
  have l0:=hlt a0
  have lm:=hlt am
  have lb:=hlt hb
  obtain ⟨H1,hH1⟩:∃H1,H1=H ++ [HObj.map [] 0,.map [] 0]:=⟨_,rfl⟩
  have b1:H1[b]? = some (.cells (dx0 x)):=by rw [hH1]; exact happ hb
  have s1:=fun S'=>st1h (S:=S') (off:=3) (v := .map H.length) b1 (by simp [dx0]) rfl rfl rfl
  have b2:=hself b1 (o' := .cells ((dx0 x).set 3 (.map H.length)))
  have s2:=fun S'=>st1h (S:=S') (off:=8) (v := .map (H.length + 1)) b2 (by simp [dx0]) rfl rfl rfl
  have hc:((dx0 x).set 3 (.map H.length)).set 8 (.map (H.length + 1))=dxc x H.length (H.length + 1):=rfl
  rw [hc,List.set_set] at s2
  obtain ⟨H2,hH2⟩:∃H2,H2=H1.set b (.cells (dxc x H.length (H.length + 1))):=⟨_,rfl⟩
  rw [←hH2] at s2
  have c0:H2[h]? = some (.cells [.map hm]):=by rw [hH2,hH1]; exact hset nb (happ a0)
  have cm:H2[hm]? = some (.map [] 0):=by rw [hH2,hH1]; exact hset nbm (happ am)
  have u:∀S',updateL (.one (.int .i64)) (.map hm) (.s (.int .i64 id)) (.ptr (.heap b) 0) ⟨S',H2⟩=some ⟨S',H2.set hm (.map [⟨iA id,.ptr (.heap b) 0,0⟩] 1)⟩:=fun S'=>map_new keyK_int (k:=id) (v := .ptr (.heap b) 0) (l:=([]:List (Int×Nat))) (kp:=Prod.fst) (vf:=ptB) cm rfl (fun x hx=>by cases hx) rfl
  simp only [←hH1,C_coord_Coord_add,A_,simprocAttr,ne_eq,U_coord_Coord_add.1,s1,s2,c0,u]
  refine hK _ ?_ ⟨?_,?_,?_,?_,?_,ok,nb,nbm,by omega,by omega,by omega,by omega,by omega,by omega,by omega⟩
  · rw [hH2,hH1]
    exact (Keep.app.trans (Keep.set (by simp))).trans (Keep.set (by simp))
  · exact hset t.ne.symm c0
  · exact ⟨_,_,hself cm,MapG.new (x:=(id,b)) (es:=[]) (l:=[]) ⟨rfl,.nil,fun e h=>by cases h⟩⟩
  · refine hset nbm.symm ?_
    rw [hH2]; exact hself b1
  · refine ⟨[],0,hset (by omega) ?_,?_⟩
    · rw [hH2,List.getElem?_set_ne (by omega),hH1]; simp
    · rw [hv0]; exact ⟨rfl,.nil,fun e h=>by cases h⟩
  · refine ⟨[],0,hset (by omega) ?_,?_⟩
    · rw [hH2,List.getElem?_set_ne (by omega),hH1]; simp
    · rw [ha0]; exact ⟨rfl,.nil,fun e h=>by cases h⟩
def badB (id:Int) (s:Stp) (l:List Int):Bool:=decide (id < 1) || !goodS s || !goodParts l
def BegS (C:CallW) (f:FuncId):Prop:=∀(h hm:Nat) (id:Int) (s:Stp) (l:List Int) S H (K:AV→St→Prop),CoE H h hm→l.length≤1000000→(badB id s l=true→K (.i 1) ⟨S,H⟩)→(badB id s l=false→∀H' b hv ha,Keep H H' [hm]→H.length≤b→H.length≤hv→H.length≤ha→CoX H' h hm id b hv ha ⟨s,l,[],false,false,⟨0,0⟩,[]⟩→K (.i 0) ⟨S,H'⟩)→C (.fn f) [.ptr (.heap h) 0,.s (.int .i64 id),.agg (stc s),lstN l] ⟨S,H⟩ K
theorem goodParts_ne {l:List Int} (h:goodParts l=true):l≠[]:=by
  intro e
  subst e
  revert h; decide
set_option maxHeartbeats 8000000 in
theorem coord_Begin_spec {C:CallW} (P:Program) {c:Nat→FuncId} (h0:∀s:Stp,FnS C (c 0) [.agg (stc s)] (.bool (goodS s))) (h1:PartsS C (c 1)) (h2:CloneIH C (c 2)) (h3:AddCS C (c 3)):∀(h hm:Nat) (id:Int) (s:Stp) (l:List Int) S H (K:AV→St→Prop),CoE H h hm→l.length≤1000000→(badB id s l=true→K (.i 1) ⟨S,H⟩)→(badB id s l=false→∀H' b hv ha,Keep H H' [hm]→H.length≤b→H.length≤hv→H.length≤ha→CoX H' h hm id b hv ha ⟨s,l,[],false,false,⟨0,0⟩,[]⟩→K (.i 0) ⟨S,H'⟩)→runL C P (C_coord_Coord_Begin c) [.ptr (.heap h) 0,.s (.int .i64 id),.agg (stc s),lstN l] ⟨S,H⟩ K:=by
  intro h hm id s l S H K t hl hbad hok
  unfold badB at hbad hok
  by_cases hid:id < 1
  · rw [decide_eq_true hid] at hbad
    simp only [stc,lstN,C_coord_Coord_Begin,A_,simprocAttr,ne_eq,(U_coord_Coord_Begin _).1,hid]
    exact hbad rfl
  rw [decide_eq_false hid] at hbad hok
  simp only [stc,lstN,C_coord_Coord_Begin,A_,simprocAttr,ne_eq,(U_coord_Coord_Begin _).1,hid]
  refine h0 s _ _ _ ?_
  cases hg:goodS s with
  | false =>
    rw [hg] at hbad
    simp only [stc,lstN,C_coord_Coord_Begin,A_,simprocAttr,ne_eq,(U_coord_Coord_Begin _).1,hid]
    exact hbad rfl
  | true =>
  rw [hg] at hbad hok
  simp only [stc,lstN,C_coord_Coord_Begin,A_,simprocAttr,ne_eq,(U_coord_Coord_Begin _).1,hid]
  refine h1 l _ _ _ (by omega) ?_
  cases hp:goodParts l with
  | false =>
    rw [hp] at hbad
    simp only [stc,lstN,C_coord_Coord_Begin,A_,simprocAttr,ne_eq,(U_coord_Coord_Begin _).1,hid]
    exact hbad rfl
  | true =>
  rw [hp] at hok
  have hok:=hok rfl
  clear hbad
  have a0:=t.at0
  have hne:=goodParts_ne hp
  have hlk:=fun S'=>t.look (S:=S') id
  simp only [stc,lstN,C_coord_Coord_Begin,A_,simprocAttr,ne_eq,(U_coord_Coord_Begin _).1,CHK_,Nat.reduceBEq,re0,re1,hid,a0,hlk]
  refine h2 l _ _ _ hne hl ?_
  simp only [stc,lstN,C_coord_Coord_Begin,A_,simprocAttr,ne_eq,(U_coord_Coord_Begin _).1,CHK_,Nat.reduceBEq,re0,re1,hid,a0,hlk]
  have hb:(H ++ [HObj.cells (dx0 ⟨s,l,[],false,false,⟨0,0⟩,[]⟩)])[H.length]? = some (.cells (dx0 ⟨s,l,[],false,false,⟨0,0⟩,[]⟩)):=by simp
  have l0:=hlt a0
  have lm:=hlt t.atm
  refine h3 h hm H.length id ⟨s,l,[],false,false,⟨0,0⟩,[]⟩ _ _ _ ⟨happ a0,happ t.atm,t.ne⟩ hb (by omega) (by omega) ⟨hne,hl,.nil,.nil⟩ rfl rfl fun H' k t' => ?_
  simp only [stc,lstN,C_coord_Coord_Begin,A_,simprocAttr,ne_eq,(U_coord_Coord_Begin _).1,CHK_,Nat.reduceBEq,re0,re1,hid,a0,hlk]
  refine hok H' _ _ _ ?_ (Nat.le_refl _) ?_ ?_ t'
  · exact ⟨Nat.le_trans (by simp) k.1,fun i hi e=>by
      rw [k.2 i (by simp; omega) (by simp only [List.mem_cons,List.not_mem_nil,or_false,not_or] at e ⊢; exact ⟨by omega,e⟩)]
      exact List.getElem?_append_left hi⟩
  · simp
  · simp; omega
def BegXS (C:CallW) (f:FuncId):Prop:=∀(h hm b hv ha:Nat) (id:Int) (x:Dx) (s:Stp) (l:List Int) S H (K:AV→St→Prop),CoX H h hm id b hv ha x→l.length≤1000000→badB id s l=false→K (.i 5) ⟨S,H⟩→C (.fn f) [.ptr (.heap h) 0,.s (.int .i64 id),.agg (stc s),lstN l] ⟨S,H⟩ K
theorem coord_BeginX_spec {C:CallW} (P:Program) {c:Nat→FuncId} (h0:∀s:Stp,FnS C (c 0) [.agg (stc s)] (.bool (goodS s))) (h1:PartsS C (c 1)):∀(h hm b hv ha:Nat) (id:Int) (x:Dx) (s:Stp) (l:List Int) S H (K:AV→St→Prop),CoX H h hm id b hv ha x→l.length≤1000000→badB id s l=false→K (.i 5) ⟨S,H⟩→runL C P (C_coord_Coord_Begin c) [.ptr (.heap h) 0,.s (.int .i64 id),.agg (stc s),lstN l] ⟨S,H⟩ K:=by
  intro h hm b hv ha id x s l S H K t hl hgood hK
  unfold badB at hgood
  simp only [Bool.or_eq_false_iff,decide_eq_false_iff_not,Bool.not_eq_false'] at hgood
  obtain ⟨⟨hid,hg⟩,hp⟩:=hgood
  have a0:=t.at0
  have hlk:=fun S'=>t.look (S:=S') id
  simp only [if_true] at hlk
  simp only [stc,lstN,C_coord_Coord_Begin,A_,simprocAttr,ne_eq,(U_coord_Coord_Begin _).1,hid]
  refine h0 s _ _ _ ?_
  rw [hg]
  simp only [stc,lstN,C_coord_Coord_Begin,A_,simprocAttr,ne_eq,(U_coord_Coord_Begin _).1,hid]
  refine h1 l _ _ _ (by omega) ?_
  rw [hp]
  simp only [stc,lstN,C_coord_Coord_Begin,A_,simprocAttr,ne_eq,(U_coord_Coord_Begin _).1,CHK_,Nat.reduceBEq,re0,re1,hid,a0,hlk]
  exact hK
end Go.AM
namespace Go.AM
open Go
set_option maxRecDepth 20000
theorem rd2h {S:List (List AV)} {H:List HObj} {b:Nat} {cs:List AV} (hb:H[b]? = some (.cells cs)) {off:Nat} {s:Stp} (h:(cs.drop off).take 2=[.s (.int .i64 s.t),u8 s.n]):readA ⟨S,H⟩ (.ptr (.heap b) off) 2=some (.agg [.s (.int .i64 s.t),u8 s.n]):=by
  have hbo:boxOf ⟨S,H⟩ (.heap b)=some cs:=by simp [boxOf,hb]
  have hl:off + 2≤cs.length:=by have:=congrArg List.length h; simp at this; omega
  simp [readA,readCells,hbo,hl]
  rw [←List.map_drop,←List.map_take,h]; rfl
def OfXS (C:CallW) (f:FuncId):Prop:=∀(h hm b hv ha:Nat) (id:Int) (x:Dx) (part:Int) S H (K:AV→St→Prop),CoX H h hm id b hv ha x→(part∈x.parts→K (.ptr (.heap b) 0) ⟨S,H⟩)→(part∉x.parts→K (.s .nilP) ⟨S,H⟩)→C (.fn f) [.ptr (.heap h) 0,.s (.int .i64 id),.s (.int .i64 part)] ⟨S,H⟩ K
theorem coord_of_spec {C:CallW} (P:Program) {c:Nat→FuncId} (h0:ContIS C (c 0)):∀(h hm b hv ha:Nat) (id:Int) (x:Dx) (part:Int) S H (K:AV→St→Prop),CoX H h hm id b hv ha x→(part∈x.parts→K (.ptr (.heap b) 0) ⟨S,H⟩)→(part∉x.parts→K (.s .nilP) ⟨S,H⟩)→runL C P (C_coord_Coord_of c) [.ptr (.heap h) 0,.s (.int .i64 id),.s (.int .i64 part)] ⟨S,H⟩ K:=by
  intro h hm b hv ha id x part S H K t hy hn
  have a0:=t.at0
  have ab:=t.atb
  simp only [dxc] at ab
  have hlk:=fun S'=>t.look (S:=S') id
  simp only [if_true] at hlk
  simp only [C_coord_Coord_of,A_,simprocAttr,ne_eq,(U_coord_Coord_of _).1,CHK_,Nat.reduceBEq,re0,re1,a0,hlk,ab]
  refine h0 x.parts part _ _ _ t.ok.len ?_
  by_cases hp:part∈x.parts
  · rw [decide_eq_true hp]
    simp only [C_coord_Coord_of,A_,simprocAttr,ne_eq,(U_coord_Coord_of _).1,CHK_,Nat.reduceBEq,re0,re1,a0,hlk,ab]
    exact hy hp
  · rw [decide_eq_false hp]
    simp only [C_coord_Coord_of,A_,simprocAttr,ne_eq,(U_coord_Coord_of _).1,CHK_,Nat.reduceBEq,re0,re1,a0,hlk,ab]
    exact hn hp
def voteD (x:Dx) (part:Int) (y:Bool) (a:Stp):Int×Dx :=
  if part∉x.parts then (4,x) else if y=true∧(goodS a=false∨cmpS a x.snap≤0) then (1,x) else if x.known=true∨part∈x.votes then (0,x)
  else if y=false then (0,{ x with votes:=x.votes ++ [part],known:=true,st:=⟨0,0⟩ })
  else if x.votes.length + 1=x.parts.length then (0,{ x with votes:=x.votes ++ [part],known:=true,yes:=true,st:=maxS x.st a })
  else (0,{ x with votes:=x.votes ++ [part],st:=maxS x.st a })
theorem voteD_none {x:Dx} {part:Int} {y:Bool} {a:Stp} (h:part∉x.parts):voteD x part y a=(4,x):=if_pos h
theorem voteD_bad {x:Dx} {part:Int} {y:Bool} {a:Stp} (h:part∈x.parts) (hb:y=true∧(goodS a=false∨cmpS a x.snap≤0)):voteD x part y a=(1,x):=by
  unfold voteD; rw [if_neg (fun q=>q h),if_pos hb]
theorem voteD_old {x:Dx} {part:Int} {y:Bool} {a:Stp} (h:part∈x.parts) (hb:¬(y=true∧(goodS a=false∨cmpS a x.snap≤0))) (ho:x.known=true∨part∈x.votes):voteD x part y a=(0,x):=by
  unfold voteD; rw [if_neg (fun q=>q h),if_neg hb,if_pos ho]
theorem voteD_no {x:Dx} {part:Int} {a:Stp} (h:part∈x.parts) (ho:¬(x.known=true∨part∈x.votes)):voteD x part false a=(0,{ x with votes:=x.votes ++ [part],known:=true,st:=⟨0,0⟩ }):=by
  unfold voteD; rw [if_neg (fun q=>q h),if_neg (by simp),if_neg ho,if_pos rfl]
theorem voteD_all {x:Dx} {part:Int} {a:Stp} (h:part∈x.parts) (hb:¬(goodS a=false∨cmpS a x.snap≤0)) (ho:¬(x.known=true∨part∈x.votes)) (hl:x.votes.length + 1=x.parts.length):voteD x part true a=(0,{ x with votes:=x.votes ++ [part],known:=true,yes:=true,st:=maxS x.st a }):=by
  unfold voteD; rw [if_neg (fun q=>q h),if_neg (fun q=>hb q.2),if_neg ho,if_neg (by simp),if_pos hl]
theorem voteD_yes {x:Dx} {part:Int} {a:Stp} (h:part∈x.parts) (hb:¬(goodS a=false∨cmpS a x.snap≤0)) (ho:¬(x.known=true∨part∈x.votes)) (hl:¬x.votes.length + 1=x.parts.length):voteD x part true a=(0,{ x with votes:=x.votes ++ [part],st:=maxS x.st a }):=by
  unfold voteD; rw [if_neg (fun q=>q h),if_neg (fun q=>hb q.2),if_neg ho,if_neg (by simp),if_neg hl]
def VoteS (C:CallW) (f:FuncId):Prop:=∀(h hm b hv ha:Nat) (id:Int) (x:Dx) (part:Int) (y:Bool) (a:Stp) S H (K:AV→St→Prop),CoX H h hm id b hv ha x→(∀H',Keep H H' [b,hv,ha]→CoX H' h hm id b hv ha (voteD x part y a).2→K (.s (.int .i64 (voteD x part y a).1)) ⟨S,H'⟩)→C (.fn f) [.ptr (.heap h) 0,.s (.int .i64 id),.s (.int .i64 part),.s (.bool y),.agg (stc a)] ⟨S,H⟩ K
set_option maxHeartbeats 8000000 in
theorem coord_Vote_spec {C:CallW} (P:Program) {c:Nat→FuncId} (h0:OfXS C (c 0)) (h1:∀s:Stp,FnS C (c 1) [.agg (stc s)] (.bool (goodS s))) (h2:CmpSS C (c 2)) (h3:MaxS C (c 3)):∀(h hm b hv ha:Nat) (id:Int) (x:Dx) (part:Int) (y:Bool) (a:Stp) S H (K:AV→St→Prop),CoX H h hm id b hv ha x→(∀H',Keep H H' [b,hv,ha]→CoX H' h hm id b hv ha (voteD x part y a).2→K (.s (.int .i64 (voteD x part y a).1)) ⟨S,H'⟩)→runL C P (C_coord_Coord_Vote c) [.ptr (.heap h) 0,.s (.int .i64 id),.s (.int .i64 part),.s (.bool y),.agg (stc a)] ⟨S,H⟩ K:=by
  intro h hm b hv ha id x part y a S H K t hK
  have ab:=t.atb
  have atv:=t.atv
  simp only [dxc] at ab
  have lkv:=fun S'=>look_b (S:=S') atv part
  simp only [stc,C_coord_Coord_Vote,A_,simprocAttr,ne_eq,(U_coord_Coord_Vote _).1]
  refine h0 h hm b hv ha id x part _ _ _ t (fun hp => ?_) (fun hp => ?_)
  case refine_2 =>
    rw [voteD_none hp] at hK
    simp only [C_coord_Coord_Vote,A_,simprocAttr,ne_eq,(U_coord_Coord_Vote _).1,re0,re1]
    exact hK H .refl t
  have fresh:¬(x.known=true∨part∈x.votes)→∃es c,(∀S',updateL (.one (.int .i64)) (.map hv) (.s (.int .i64 part)) (.s (.bool true)) ⟨S',H⟩=some ⟨S',H.set hv (.map es c)⟩)∧CoX (H.set hv (.map es c)) h hm id b hv ha { x with votes:=x.votes ++ [part] }:=by
    intro hf
    obtain ⟨es,c,a1,g⟩:=atv
    have hnew:∀y∈x.votes,y≠part:=fun y hy e=>hf (.inr (e▸hy))
    refine ⟨_,_,fun S'=>map_new keyK_int (k:=part) (v := .s (.bool true)) a1 g.rel hnew rfl,?_⟩
    refine t.setv (g.new (x:=part)) ?_
    rw [List.nodup_append]
    exact ⟨t.ok.vn,by simp,fun p hp q hq=>by rw [List.mem_singleton.1 hq]; exact hnew p hp⟩
  cases y with
  | false =>
    simp only [stc,C_coord_Coord_Vote,A_,simprocAttr,ne_eq,(U_coord_Coord_Vote _).1,re0,re1,ab,lkv]
    by_cases hkn:x.known=true
    · rw [voteD_old hp (by simp) (.inl hkn)] at hK
      simp only [stc,C_coord_Coord_Vote,A_,simprocAttr,ne_eq,(U_coord_Coord_Vote _).1,re0,re1,ab,lkv,hkn]
      exact hK H .refl t
    have hkn':x.known=false:=by simpa using hkn
    by_cases hv':part∈x.votes
    · rw [voteD_old hp (by simp) (.inr hv')] at hK
      simp only [stc,C_coord_Coord_Vote,A_,simprocAttr,ne_eq,(U_coord_Coord_Vote _).1,re0,re1,ab,lkv,hkn',decide_eq_true hv']
      exact hK H .refl t
    have hf:¬(x.known=true∨part∈x.votes):=fun q=>q.elim hkn hv'
    rw [voteD_no hp hf] at hK
    obtain ⟨es,c',u,t1⟩:=fresh hf
    have ab1:=t1.atb
    simp only [dxc] at ab1
    generalize hH1:H.set hv (.map es c')=H1 at u t1 ab1
    have s1:=fun S'=>st1h (S:=S') (off:=4) (v := .s (.bool true)) ab1 (by simp) rfl rfl rfl
    have b2:=hself ab1 (o' := .cells [.s (.int .i64 x.snap.t),u8 x.snap.n,.list .sh 1 (x.parts.map pI),.map hv,.s (.bool true),.bool x.yes,.s (.int .i64 x.st.t),u8 x.st.n,.map ha])
    have s2:=fun S'=>st2h (S:=S') (off:=6) (v := .s (.int .i64 0)) (w := .s (.int .u8 0)) b2 (by simp) rfl rfl
    rw [List.set_set] at s2
    simp only [stc,C_coord_Coord_Vote,A_,simprocAttr,ne_eq,(U_coord_Coord_Vote _).1,re0,re1,ab,lkv,hkn',decide_eq_false hv',u,ab1,s1,s2]
    refine hK _ ?_ (t1.setb (y:={ x with votes:=x.votes ++ [part],known:=true,st:=⟨0,0⟩ }) ⟨t.ok.ne,t.ok.len,t1.ok.vn,t.ok.an⟩ rfl rfl)
    rw [←hH1]
    exact (Keep.set (by simp)).trans (Keep.set (by simp))
  | true =>
    have rs:=fun S'=>rd2h (S:=S') (off:=0) (s:=x.snap) ab rfl
    simp only [stc,C_coord_Coord_Vote,A_,simprocAttr,ne_eq,(U_coord_Coord_Vote _).1,CHK_,Nat.reduceBEq,re0,re1,ab,rs]
    refine h1 a _ _ _ ?_
    cases hg:goodS a with
    | false =>
      rw [voteD_bad hp ⟨rfl,.inl hg⟩] at hK
      simp only [stc,C_coord_Coord_Vote,A_,simprocAttr,ne_eq,(U_coord_Coord_Vote _).1,CHK_,Nat.reduceBEq,re0,re1,ab,rs]
      exact hK H .refl t
    | true =>
    simp only [stc,C_coord_Coord_Vote,A_,simprocAttr,ne_eq,(U_coord_Coord_Vote _).1,CHK_,Nat.reduceBEq,re0,re1,ab,rs]
    refine h2 a x.snap _ _ _ ?_
    by_cases hc:cmpS a x.snap≤0
    · rw [voteD_bad hp ⟨rfl,.inr hc⟩] at hK
      simp only [stc,C_coord_Coord_Vote,A_,simprocAttr,ne_eq,(U_coord_Coord_Vote _).1,CHK_,Nat.reduceBEq,re0,re1,ab,rs,hc]
      exact hK H .refl t
    have hb:¬(goodS a=false∨cmpS a x.snap≤0):=fun q=>q.elim (fun q=>by rw [hg] at q; cases q) hc
    simp only [stc,C_coord_Coord_Vote,A_,simprocAttr,ne_eq,(U_coord_Coord_Vote _).1,CHK_,Nat.reduceBEq,re0,re1,ab,rs,lkv,hc]
    by_cases hkn:x.known=true
    · rw [voteD_old hp (fun q=>hb q.2) (.inl hkn)] at hK
      simp only [stc,C_coord_Coord_Vote,A_,simprocAttr,ne_eq,(U_coord_Coord_Vote _).1,CHK_,Nat.reduceBEq,re0,re1,ab,rs,lkv,hkn]
      exact hK H .refl t
    have hkn':x.known=false:=by simpa using hkn
    by_cases hv':part∈x.votes
    · rw [voteD_old hp (fun q=>hb q.2) (.inr hv')] at hK
      simp only [stc,C_coord_Coord_Vote,A_,simprocAttr,ne_eq,(U_coord_Coord_Vote _).1,CHK_,Nat.reduceBEq,re0,re1,ab,rs,lkv,hkn',decide_eq_true hv']
      exact hK H .refl t
    have hf:¬(x.known=true∨part∈x.votes):=fun q=>q.elim hkn hv'
    obtain ⟨es,c',u,t1⟩:=fresh hf
    have ab1:=t1.atb
    simp only [dxc] at ab1
    generalize hH1:H.set hv (.map es c')=H1 at u t1 ab1
    have rt:=fun S'=>rd2h (S:=S') (off:=6) (s:=x.st) ab1 rfl
    have k1:Keep H H1 [b,hv,ha]:=by rw [←hH1]; exact Keep.set (by simp)
    simp only [stc,C_coord_Coord_Vote,A_,simprocAttr,ne_eq,(U_coord_Coord_Vote _).1,CHK_,Nat.reduceBEq,re0,re1,ab,rs,lkv,hkn',decide_eq_false hv',u,ab1,rt]
    refine h3 x.st a _ _ _ ?_
    have s1:=fun S'=>st2h (S:=S') (off:=6) (v := .s (.int .i64 (maxS x.st a).t)) (w:=u8 (maxS x.st a).n) ab1 (by simp) rfl rfl
    have t2:=t1.setb (y:={ x with votes:=x.votes ++ [part],st:=maxS x.st a }) ⟨t.ok.ne,t.ok.len,t1.ok.vn,t.ok.an⟩ rfl rfl
    have ab2:=t2.atb
    have lv2:=fun S'=>len_b (S:=S') t2.atv
    have e2:dxc { x with votes:=x.votes ++ [part],st:=maxS x.st a } hv ha=[.s (.int .i64 x.snap.t),u8 x.snap.n,.list .sh 1 (x.parts.map pI),.map hv,.bool x.known,.bool x.yes,.s (.int .i64 (maxS x.st a).t),u8 (maxS x.st a).n,.map ha]:=rfl
    have s1:∀S',storeL 2 (.ptr (.heap b) 6) (.agg [.s (.int .i64 (maxS x.st a).t),u8 (maxS x.st a).n]) ⟨S',H1⟩=some ⟨S',H1.set b (.cells (dxc { x with votes:=x.votes ++ [part],st:=maxS x.st a } hv ha))⟩:=s1
    generalize hH2:H1.set b (.cells (dxc { x with votes:=x.votes ++ [part],st:=maxS x.st a } hv ha))=H2 at s1 t2 ab2 lv2
    simp only [dxc] at ab2
    have k2:Keep H H2 [b,hv,ha]:=by rw [←hH2]; exact k1.trans (Keep.set (by simp))
    by_cases hlen:x.votes.length + 1=x.parts.length
    · rw [voteD_all hp hb hf hlen] at hK
      have hl':(((x.votes ++ [part]).length:Int)=(x.parts.length:Int))=True:=eq_true (by rw [List.length_append]; simp; omega)
      have hl2:((x.votes.length:Int) + 1=(x.parts.length:Int))=True:=eq_true (by omega)
      have hl3:(((x.votes.length + 1:Nat):Int)=(x.parts.length:Int))=True:=eq_true (by omega)
      have w1:=fun S'=>st1h (S:=S') (off:=4) (v := .s (.bool true)) ab2 (by simp) rfl rfl rfl
      have b2:=hself ab2 (o' := .cells [.s (.int .i64 x.snap.t),u8 x.snap.n,.list .sh 1 (x.parts.map pI),.map hv,.s (.bool true),.bool x.yes,.s (.int .i64 (maxS x.st a).t),u8 (maxS x.st a).n,.map ha])
      have w2:=fun S'=>st1h (S:=S') (off:=5) (v := .s (.bool true)) b2 (by simp) rfl rfl rfl
      rw [List.set_set] at w2
      simp only [stc,C_coord_Coord_Vote,A_,simprocAttr,ne_eq,(U_coord_Coord_Vote _).1,CHK_,Nat.reduceBEq,re0,re1,ab1,ab2,s1,lv2,hl',hl2,hl3,List.length_append,w1,w2]
      refine hK _ ?_ (t2.setb (y:={ x with votes:=x.votes ++ [part],known:=true,yes:=true,st:=maxS x.st a }) ⟨t.ok.ne,t.ok.len,t1.ok.vn,t.ok.an⟩ rfl rfl)
      exact k2.trans (Keep.set (by simp))
    · rw [voteD_yes hp hb hf hlen] at hK
      have hl3:(((x.votes.length + 1:Nat):Int)=(x.parts.length:Int))=False:=eq_false (by omega)
      have hl2:((x.votes.length:Int) + 1=(x.parts.length:Int))=False:=eq_false (by omega)
      simp only [stc,C_coord_Coord_Vote,A_,simprocAttr,ne_eq,(U_coord_Coord_Vote _).1,CHK_,Nat.reduceBEq,re0,re1,ab1,ab2,s1,lv2,hl2,hl3,List.length_append]
      exact hK _ k2 t2
end Go.AM
namespace Go.AM
open Go
set_option maxRecDepth 20000
def onlyR (r:Rec):Rec :=
  if r.kind=1 then ⟨r.kind,r.id,r.snap,r.stamp,r.writes,false,[]⟩
  else if r.kind=2∨r.kind=5 then ⟨r.kind,r.id,⟨0,0⟩,r.stamp,[],false,[]⟩
  else if r.kind=4 then ⟨r.kind,r.id,⟨0,0⟩,if r.yes=true then r.stamp else ⟨0,0⟩,[],r.yes,r.parts⟩
  else ⟨r.kind,r.id,⟨0,0⟩,⟨0,0⟩,[],false,[]⟩
theorem storeP_stk {S:List (List AV)} {l:List (List AV)} {H:List HObj} {j n off:Nat} {vs:List AV} (hj:j < l.length) (h:off + n≤(l.getD j []).length) (hv:vs.length=n) (hn:2≤n) (hu:AV.under.go (S.length + j) vs=true):storeL n (.ptr (.stk (S.length + j)) off) (.agg vs) ⟨S ++ l,H⟩=some ⟨S ++ l.set j ((l.getD j []).take off ++ vs ++ (l.getD j []).drop (off + n)),H⟩:=by
  have e:l[j]? = some (l.getD j []):=by simp [List.getD,hj]
  have hs:splice (l.getD j []) off vs=(l.getD j []).take off ++ vs ++ (l.getD j []).drop (off + n):=by
    unfold splice
    split
    · simp at hv; omega
    · rw [hv]
  simp only [storeL,AV.cells,AV.fit,hv,writeCells,boxOf_stk,app_get,e,Option.bind_some,hs,setBox_stk,app_set,mayHold,hu,h,decide_true,Bool.and_self,if_true,true_and]
  rw [if_pos (by simp; omega)]
theorem storeP_stk0 {S:List (List AV)} {l:List (List AV)} {H:List HObj} {n off:Nat} {vs:List AV} (hj:0 < l.length) (h:off + n≤(l.getD 0 []).length) (hv:vs.length=n) (hn:2≤n) (hu:AV.under.go S.length vs=true):storeL n (.ptr (.stk S.length) off) (.agg vs) ⟨S ++ l,H⟩=some ⟨S ++ l.set 0 ((l.getD 0 []).take off ++ vs ++ (l.getD 0 []).drop (off + n)),H⟩:=storeP_stk (j:=0) hj h hv hn hu
theorem rcc_cell {r:Rec}:∀c∈rcc r,c.isCell=true:=by
  intro c hc
  simp only [rcc,List.mem_cons,List.not_mem_nil,or_false] at hc
  rcases hc with rfl | rfl | rfl | rfl | rfl | rfl | rfl | rfl | rfl <;> rfl
theorem rcc_wk (r:Rec) (x z:AV) (hx:x = .list .sh 18 (r.writes.map wA)∨x = .s .nilS∧r.writes=[]) (hz:z = .list .sh 1 (r.parts.map pI)∨z = .s .nilS∧r.parts=[]):WkL [(AV.agg [.s (.int .i64 r.kind),.s (.int .i64 r.id),.s (.int .i64 r.snap.t),u8 r.snap.n,.s (.int .i64 r.stamp.t),u8 r.stamp.n,x,.s (.bool r.yes),z]).sh] [.agg (rcc r)]:=by
  have hsh:∀l,(AV.agg l).sh = .agg l:=fun _=>rfl
  rw [hsh]
  refine .agg (.same (.same (.same (.same (.same (.same ?_)))))) rcc_cell .nil
  rcases hx with rfl | ⟨rfl,h1⟩ <;> rcases hz with rfl | ⟨rfl,h2⟩
  · exact .same (.same (.same .nil))
  · rw [h2]; exact .same (.same (.nilS (by omega) .nil))
  · rw [h1]; exact .nilS (by omega) (.same (.same .nil))
  · rw [h1,h2]; exact .nilS (by omega) (.same (.nilS (by omega) .nil))
set_option maxHeartbeats 16000000 in
theorem rec_only_spec {C:CallW} (P:Program):∀(r:Rec) S H (K:AV→St→Prop),K (.agg (rcc (onlyR r))) ⟨S,H⟩→runL C P C_rec_only [.agg (rcc r)] ⟨S,H⟩ (WkK K):=by
  intro r S H K hK
  unfold onlyR at hK
  by_cases k1:r.kind=1
  · rw [if_pos k1] at hK
    have k1':=eq_true k1
    simp only [C_rec_only,A_,simprocAttr,ne_eq,U_rec_only.1,fillL,storeP_stk,storeP_stk0,rcc,k1']
    refine ⟨_,?_,hK⟩
    exact .inr (rcc_wk ⟨r.kind,r.id,r.snap,r.stamp,r.writes,false,[]⟩ _ _ (.inl rfl) (.inr ⟨rfl,rfl⟩))
  rw [if_neg k1] at hK
  by_cases k2:r.kind=2
  · rw [if_pos (.inl k2)] at hK
    have k2':=eq_true k2
    simp only [C_rec_only,A_,simprocAttr,ne_eq,U_rec_only.1,fillL,storeP_stk,storeP_stk0,rcc,k1,k2']
    refine ⟨_,?_,hK⟩
    exact .inr (rcc_wk ⟨r.kind,r.id,⟨0,0⟩,r.stamp,[],false,[]⟩ _ _ (.inr ⟨rfl,rfl⟩) (.inr ⟨rfl,rfl⟩))
  by_cases k5:r.kind=5
  · rw [if_pos (.inr k5)] at hK
    have k5':=eq_true k5
    simp only [C_rec_only,A_,simprocAttr,ne_eq,U_rec_only.1,fillL,storeP_stk,storeP_stk0,rcc,k1,k2,k5']
    refine ⟨_,?_,hK⟩
    exact .inr (rcc_wk ⟨r.kind,r.id,⟨0,0⟩,r.stamp,[],false,[]⟩ _ _ (.inr ⟨rfl,rfl⟩) (.inr ⟨rfl,rfl⟩))
  rw [if_neg (by rintro (h | h); exact k2 h; exact k5 h)] at hK
  by_cases k4:r.kind=4
  · rw [if_pos k4] at hK
    have k4':=eq_true k4
    cases hy:r.yes with
    | true =>
      rw [hy,if_pos rfl] at hK
      simp only [C_rec_only,A_,simprocAttr,ne_eq,U_rec_only.1,fillL,storeP_stk,storeP_stk0,rcc,k1,k2,k5,k4',hy]
      refine ⟨_,?_,hK⟩
      exact .inr (rcc_wk ⟨r.kind,r.id,⟨0,0⟩,r.stamp,[],true,r.parts⟩ _ _ (.inr ⟨rfl,rfl⟩) (.inl rfl))
    | false =>
      rw [hy,if_neg (by simp)] at hK
      simp only [C_rec_only,A_,simprocAttr,ne_eq,U_rec_only.1,fillL,storeP_stk,storeP_stk0,rcc,k1,k2,k5,k4',hy]
      refine ⟨_,?_,hK⟩
      exact .inr (rcc_wk ⟨r.kind,r.id,⟨0,0⟩,⟨0,0⟩,[],false,r.parts⟩ _ _ (.inr ⟨rfl,rfl⟩) (.inl rfl))
  · rw [if_neg k4] at hK
    simp only [C_rec_only,A_,simprocAttr,ne_eq,U_rec_only.1,fillL,storeP_stk,storeP_stk0,rcc,k1,k2,k5,k4]
    refine ⟨_,?_,hK⟩
    exact .inr (rcc_wk ⟨r.kind,r.id,⟨0,0⟩,⟨0,0⟩,[],false,[]⟩ _ _ (.inr ⟨rfl,rfl⟩) (.inr ⟨rfl,rfl⟩))
def goodRec (r:Rec):Bool :=
  if r≠onlyR r then false
  else if r.kind=1 then goodE ⟨r.id,r.snap,r.stamp,r.writes⟩
  else if r.kind=2 then decide (1≤r.id) && goodS r.stamp
  else if r.kind=3 then decide (1≤r.id)
  else if r.kind=4 then decide (1≤r.id) && goodS r.stamp && goodParts r.parts
  else if r.kind=5 then decide (r.id=0) && goodS r.stamp && decide (r.stamp.n=0)
  else false
theorem onlyR_ok {r:Rec} (h:okR r):okR (onlyR r):=by
  unfold onlyR okR at *
  split
  · exact ⟨h.1,by simp⟩
  · split
    · simp
    · split
      · exact ⟨by simp,h.2⟩
      · simp
def OnlyS (C:CallW) (f:FuncId):Prop:=∀(r:Rec),FnS C f [.agg (rcc r)] (.agg (rcc (onlyR r)))
def GoodRS (C:CallW) (f:FuncId):Prop:=∀(r:Rec) S H (K:AV→St→Prop),okR r→(∀G,K (.bool (goodRec r)) ⟨S,H ++ G⟩)→C (.fn f) [.agg (rcc r)] ⟨S,H⟩ K
set_option maxHeartbeats 16000000 in
theorem rec_Good_spec {C:CallW} (P:Program) {c:Nat→FuncId} (h0:OnlyS C (c 0)) (h1:SameS C (c 1)) (h2:EntS goodE C (c 2)) (h3:∀s:Stp,FnS C (c 3) [.agg (stc s)] (.bool (goodS s))) (h4:PartsS C (c 4)):∀(r:Rec) S H (K:AV→St→Prop),okR r→(∀G,K (.bool (goodRec r)) ⟨S,H ++ G⟩)→runL C P (C_rec_Good c) [.agg (rcc r)] ⟨S,H⟩ K:=by
  intro r S H K hr hK
  have hK0:=hK []
  rw [List.append_nil] at hK0
  have h0':=h0 r
  have h1':=h1 r (onlyR r)
  have h2':=h2 ⟨r.id,r.snap,r.stamp,r.writes⟩
  have h3':=h3 r.stamp
  have h4':=h4 r.parts
  have ecut:∀q,rcc r=q→q=rcc r:=fun _ h=>h.symm
  unfold stc at h3'
  unfold lstN at h4'
  unfold enc at h2'
  unfold goodRec at hK hK0
  have hrc:rcc r=[.s (.int .i64 r.kind),.s (.int .i64 r.id),.s (.int .i64 r.snap.t),u8 r.snap.n,.s (.int .i64 r.stamp.t),u8 r.stamp.n,.list .sh 18 (r.writes.map wA),.s (.bool r.yes),.list .sh 1 (r.parts.map pI)]:=rfl
  rw [hrc] at h0' h1'
  simp only [C_rec_Good,A_,simprocAttr,ne_eq,(U_rec_Good _).1,rcc]
  refine h0' _ _ _ ?_
  generalize ho:onlyR r=o at *
  have hoc:rcc o=[.s (.int .i64 o.kind),.s (.int .i64 o.id),.s (.int .i64 o.snap.t),u8 o.snap.n,.s (.int .i64 o.stamp.t),u8 o.stamp.n,.list .sh 18 (o.writes.map wA),.s (.bool o.yes),.list .sh 1 (o.parts.map pI)]:=rfl
  rw [hoc] at h1'
  simp only [A_,simprocAttr,ne_eq,(U_rec_Good _).1,rcc]
  refine h1' _ _ _ hr (ho▸onlyR_ok hr) ?_
  by_cases heq:r=o
  case neg =>
    rw [if_pos heq] at hK0
    simp only [A_,simprocAttr,ne_eq,(U_rec_Good _).1,heq]
    exact hK0
  have heq':=eq_true heq
  rw [if_neg (by simpa using heq)] at hK hK0
  simp only [A_,simprocAttr,ne_eq,(U_rec_Good _).1,heq']
  by_cases k1:r.kind=1
  · rw [if_pos k1] at hK
    have k1':=eq_true k1
    simp only [A_,simprocAttr,ne_eq,(U_rec_Good _).1,fillL,k1']
    refine h2' _ _ _ hr.1 fun G => ?_
    simp only [A_,simprocAttr,ne_eq,(U_rec_Good _).1]
    exact hK G
  rw [if_neg k1] at hK hK0
  by_cases k2:r.kind=2
  · rw [if_pos k2] at hK0
    have k2':=eq_true k2
    by_cases e1:1≤r.id
    · simp only [A_,simprocAttr,ne_eq,(U_rec_Good _).1,k1,k2',e1]
      refine h3' _ _ _ ?_
      simp only [e1,decide_true,Bool.true_and] at hK0
      simp only [A_,simprocAttr,ne_eq,(U_rec_Good _).1]
      exact hK0
    · simp only [e1,decide_false,Bool.false_and] at hK0
      simp only [A_,simprocAttr,ne_eq,(U_rec_Good _).1,k1,k2',e1]
      exact hK0
  rw [if_neg k2] at hK0
  by_cases k3:r.kind=3
  · rw [if_pos k3] at hK0
    have k3':=eq_true k3
    by_cases e1:1≤r.id
    · simp only [e1,decide_true] at hK0
      simp only [A_,simprocAttr,ne_eq,(U_rec_Good _).1,k1,k2,k3',e1]
      exact hK0
    · simp only [e1,decide_false] at hK0
      simp only [A_,simprocAttr,ne_eq,(U_rec_Good _).1,k1,k2,k3',e1]
      exact hK0
  rw [if_neg k3] at hK0
  by_cases k4:r.kind=4
  · rw [if_pos k4] at hK0
    have k4':=eq_true k4
    by_cases e1:1≤r.id
    · simp only [A_,simprocAttr,ne_eq,(U_rec_Good _).1,k1,k2,k3,k4',e1]
      refine h3' _ _ _ ?_
      cases e2:goodS r.stamp with
      | false =>
        simp only [e1,e2,decide_true,Bool.true_and,Bool.false_and] at hK0
        simp only [A_,simprocAttr,ne_eq,(U_rec_Good _).1]
        exact hK0
      | true =>
        simp only [e1,e2,decide_true,Bool.true_and] at hK0
        simp only [A_,simprocAttr,ne_eq,(U_rec_Good _).1]
        refine h4' _ _ _ hr.2 ?_
        simp only [A_,simprocAttr,ne_eq,(U_rec_Good _).1]
        exact hK0
    · simp only [e1,decide_false,Bool.false_and] at hK0
      simp only [A_,simprocAttr,ne_eq,(U_rec_Good _).1,k1,k2,k3,k4',e1]
      exact hK0
  rw [if_neg k4] at hK0
  by_cases k5:r.kind=5
  · rw [if_pos k5] at hK0
    have k5':=eq_true k5
    by_cases e1:r.id=0
    · have e1':=eq_true e1
      simp only [A_,simprocAttr,ne_eq,(U_rec_Good _).1,k1,k2,k3,k4,k5',e1']
      refine h3' _ _ _ ?_
      cases e2:goodS r.stamp with
      | false =>
        simp only [e1,e2,decide_true,Bool.true_and,Bool.false_and] at hK0
        simp only [A_,simprocAttr,ne_eq,(U_rec_Good _).1]
        exact hK0
      | true =>
        simp only [e1,e2,decide_true,Bool.true_and] at hK0
        have ez:decide ((r.stamp.n.toNat:Int)=0)=decide (r.stamp.n=0):=by simp only [u8_zero]
        simp only [A_,simprocAttr,ne_eq,(U_rec_Good _).1,u8,ez]
        exact hK0
    · simp only [e1,decide_false,Bool.false_and] at hK0
      simp only [A_,simprocAttr,ne_eq,(U_rec_Good _).1,k1,k2,k3,k4,k5',e1]
      exact hK0
  · rw [if_neg k5] at hK0
    simp only [A_,simprocAttr,ne_eq,(U_rec_Good _).1,k1,k2,k3,k4,k5]
    exact hK0
end Go.AM
namespace Go.AM
open Go
set_option maxRecDepth 20000
def decD (x:Dx):Bool×Bool×Stp:=if x.known=true then (true,x.yes,x.st) else (false,false,⟨0,0⟩)
def DecS (C:CallW) (f:FuncId):Prop:=∀(h hm b hv ha:Nat) (id:Int) (x:Dx) S H (K:AV→St→Prop),CoX H h hm id b hv ha x→K (.tup [.s (.bool (decD x).1),.s (.bool (decD x).2.1),.agg (stc (decD x).2.2)]) ⟨S,H⟩→C (.fn f) [.ptr (.heap h) 0,.s (.int .i64 id)] ⟨S,H⟩ K
set_option maxHeartbeats 4000000 in
theorem coord_Decision_spec {C:CallW} (P:Program):∀(h hm b hv ha:Nat) (id:Int) (x:Dx) S H (K:AV→St→Prop),CoX H h hm id b hv ha x→K (.tup [.s (.bool (decD x).1),.s (.bool (decD x).2.1),.agg (stc (decD x).2.2)]) ⟨S,H⟩→runL C P C_coord_Coord_Decision [.ptr (.heap h) 0,.s (.int .i64 id)] ⟨S,H⟩ K:=by
  intro h hm b hv ha id x S H K t hK
  have a0:=t.at0
  have ab:=t.atb
  simp only [dxc] at ab
  have rs:=fun S'=>rd2h (S:=S') (off:=6) (s:=x.st) ab rfl
  have hlk:=fun S'=>t.look (S:=S') id
  simp only [if_true] at hlk
  unfold decD at hK
  by_cases hkn:x.known=true
  · rw [if_pos hkn] at hK
    simp only [C_coord_Coord_Decision,A_,simprocAttr,ne_eq,U_coord_Coord_Decision.1,CHK_,Nat.reduceBEq,re0,re1,a0,hlk,ab,hkn,rs]
    exact hK
  · rw [if_neg hkn] at hK
    have hkn':x.known=false:=by simpa using hkn
    simp only [C_coord_Coord_Decision,A_,simprocAttr,ne_eq,U_coord_Coord_Decision.1,CHK_,Nat.reduceBEq,re0,re1,a0,hlk,ab,hkn',rs]
    exact hK
def ackD (x:Dx) (part:Int):Int×Dx:=if part∉x.parts then (4,x) else if x.known=false then (8,x) else (0,{ x with acked:=putB (fun i=>i) x.acked part })
def AckS (C:CallW) (f:FuncId):Prop:=∀(h hm b hv ha:Nat) (id:Int) (x:Dx) (part:Int) S H (K:AV→St→Prop),CoX H h hm id b hv ha x→(∀H',Keep H H' [b,hv,ha]→CoX H' h hm id b hv ha (ackD x part).2→K (.s (.int .i64 (ackD x part).1)) ⟨S,H'⟩)→C (.fn f) [.ptr (.heap h) 0,.s (.int .i64 id),.s (.int .i64 part)] ⟨S,H⟩ K
theorem putB_nodup {l:List Int} {v:Int} (h:l.Nodup):(putB (fun i=>i) l v).Nodup:=by
  by_cases hv:v∈l
  · rw [putB_same (kp:=fun i:Int=>i) (by simpa using h) hv]; exact h
  · rw [putB_new (kp:=fun i:Int=>i) fun y hy (e:y=v)=>hv (e▸hy),List.nodup_append]
    exact ⟨h,by simp,fun a ha b hb=>by rw [List.mem_singleton.1 hb]; exact fun e:a=v=>hv (e▸ha)⟩
set_option maxHeartbeats 4000000 in
theorem coord_Ack_spec {C:CallW} (P:Program) {c:Nat→FuncId} (h0:OfXS C (c 0)):∀(h hm b hv ha:Nat) (id:Int) (x:Dx) (part:Int) S H (K:AV→St→Prop),CoX H h hm id b hv ha x→(∀H',Keep H H' [b,hv,ha]→CoX H' h hm id b hv ha (ackD x part).2→K (.s (.int .i64 (ackD x part).1)) ⟨S,H'⟩)→runL C P (C_coord_Coord_Ack c) [.ptr (.heap h) 0,.s (.int .i64 id),.s (.int .i64 part)] ⟨S,H⟩ K:=by
  intro h hm b hv ha id x part S H K t hK
  have ab:=t.atb
  simp only [dxc] at ab
  simp only [C_coord_Coord_Ack,A_,simprocAttr,ne_eq,(U_coord_Coord_Ack _).1]
  refine h0 h hm b hv ha id x part _ _ _ t (fun hp => ?_) (fun hp => ?_)
  case refine_2 =>
    have e:ackD x part=(4,x):=if_pos hp
    rw [e] at hK
    simp only [C_coord_Coord_Ack,A_,simprocAttr,ne_eq,(U_coord_Coord_Ack _).1,re0,re1]
    exact hK H .refl t
  by_cases hkn:x.known=true
  · have e:ackD x part=(0,{ x with acked:=putB (fun i=>i) x.acked part }):=by unfold ackD; rw [if_neg (fun q=>q hp),if_neg (by simp [hkn])]
    rw [e] at hK
    obtain ⟨es,c',a1,g⟩:=t.ata
    obtain ⟨es',c2,u,g'⟩:=g.upd keyK_int (x:=part) a1 (by simpa using t.ok.an) rfl
    have u:∀S',updateL (.one (.int .i64)) (.map ha) (.s (.int .i64 part)) (.s (.bool true)) ⟨S',H⟩=some ⟨S',H.set ha (.map es' c2)⟩:=u
    simp only [C_coord_Coord_Ack,A_,simprocAttr,ne_eq,(U_coord_Coord_Ack _).1,re0,re1,ab,hkn,u]
    exact hK _ (Keep.set (by simp)) (t.seta g' (putB_nodup t.ok.an))
  · have hkn':x.known=false:=by simpa using hkn
    have e:ackD x part=(8,x):=by unfold ackD; rw [if_neg (fun q=>q hp),if_pos hkn']
    rw [e] at hK
    simp only [C_coord_Coord_Ack,A_,simprocAttr,ne_eq,(U_coord_Coord_Ack _).1,re0,re1,ab,hkn']
    exact hK H .refl t
def giveD (x:Dx):Dx:=if x.known=true then x else { x with known:=true,st:=⟨0,0⟩ }
def GiveS (C:CallW) (f:FuncId):Prop:=∀(h hm b hv ha:Nat) (id:Int) (x:Dx) S H (K:AV→St→Prop),CoX H h hm id b hv ha x→(∀H',Keep H H' [b,hv,ha]→CoX H' h hm id b hv ha (giveD x)→K (.tup [.s (.bool x.yes),.s (.int .i64 0)]) ⟨S,H'⟩)→C (.fn f) [.ptr (.heap h) 0,.s (.int .i64 id)] ⟨S,H⟩ K
set_option maxHeartbeats 4000000 in
theorem coord_Give_spec {C:CallW} (P:Program):∀(h hm b hv ha:Nat) (id:Int) (x:Dx) S H (K:AV→St→Prop),CoX H h hm id b hv ha x→(∀H',Keep H H' [b,hv,ha]→CoX H' h hm id b hv ha (giveD x)→K (.tup [.s (.bool x.yes),.s (.int .i64 0)]) ⟨S,H'⟩)→runL C P C_coord_Coord_Give [.ptr (.heap h) 0,.s (.int .i64 id)] ⟨S,H⟩ K:=by
  intro h hm b hv ha id x S H K t hK
  have a0:=t.at0
  have ab:=t.atb
  simp only [dxc] at ab
  have hlk:=fun S'=>t.look (S:=S') id
  simp only [if_true] at hlk
  by_cases hkn:x.known=true
  · have e:giveD x=x:=if_pos hkn
    rw [e] at hK
    simp only [C_coord_Coord_Give,A_,simprocAttr,ne_eq,U_coord_Coord_Give.1,re0,re1,a0,hlk,ab,hkn]
    exact hK H .refl t
  · have e:giveD x={ x with known:=true,st:=⟨0,0⟩ }:=if_neg hkn
    rw [e] at hK
    have hkn':x.known=false:=by simpa using hkn
    have s1:=fun S'=>st1h (S:=S') (off:=4) (v := .s (.bool true)) ab (by simp) rfl rfl rfl
    have b2:=hself ab (o' := .cells [.s (.int .i64 x.snap.t),u8 x.snap.n,.list .sh 1 (x.parts.map pI),.map hv,.s (.bool true),.bool x.yes,.s (.int .i64 x.st.t),u8 x.st.n,.map ha])
    have s2:=fun S'=>st2h (S:=S') (off:=6) (v := .s (.int .i64 0)) (w := .s (.int .u8 0)) b2 (by simp) rfl rfl
    have b3:=hself ab (o' := .cells [.s (.int .i64 x.snap.t),u8 x.snap.n,.list .sh 1 (x.parts.map pI),.map hv,.s (.bool true),.bool x.yes,.s (.int .i64 0),.s (.int .u8 0),.map ha])
    rw [List.set_set] at s2
    simp only [C_coord_Coord_Give,A_,simprocAttr,ne_eq,U_coord_Coord_Give.1,re0,re1,a0,hlk,ab,hkn',s1,s2,b3]
    exact hK _ (Keep.set (by simp)) (t.setb (y:={ x with known:=true,st:=⟨0,0⟩ }) ⟨t.ok.ne,t.ok.len,t.ok.vn,t.ok.an⟩ rfl rfl)
end Go.AM
