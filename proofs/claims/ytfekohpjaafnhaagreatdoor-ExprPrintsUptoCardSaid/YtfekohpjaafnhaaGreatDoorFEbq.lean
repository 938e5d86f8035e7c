/-
  Functions' ways, printed by a program: what each computes, and that this is what the interpreter computes.
-/
import Derived.Test.YtfekohpjaafnhaaGreatDoorFEq
import Derived.KernelRfl
set_option linter.all false
set_option maxRecDepth 10000
namespace Go.Proofs.YtfekohpjaafnhaaGreatDoor
namespace Ab
variable [vo]
inductive S24 where
 |e_24 (a:Rs)(b c:Int)
 |h0_24 (a:Int)(b:Rs)(c d:Int)(e f:By)(g i j l:Int)(m n:By)(o:Int)(p:Rs)(q t:Int)
 |h1_24 (a:Int)(b:Rs)(c d:Int)(e f:By)(g i j l:Int)(m n:By)(o:Int)(p:Rs)(q t:Int)
 |e_43 (a:Rs)(b c:Int)
 |h0_43 (a:Int)(b:Rs)(c d:Int)(e f:By)(g i j l:Int)(m n:By)(o:Int)(p:Rs)(q t:Int)
 |h1_43 (a:Int)(b:Rs)(c d:Int)(e f:By)(g i j l:Int)(m n:By)(o:Int)(p:Rs)(q t:Int)
 |e_67 (a:Rs)(b c:Int)
 |e_79 (a:Rs)(b c:Int)
 |e_89 (a:Rs)(b c:Int)
 |h0_89 (a:Int)(b:Rs)(c d:Int)(e f:By)(g i j l:Int)(m n:By)(o:Int)(p:Rs)(q t:Int)
 |h1_89 (a:Int)(b:Rs)(c d:Int)(e f:By)(g i j l:Int)(m n:By)(o:Int)(p:Rs)(q t:Int)
 |e_97 (a:Rs)(b c:Int)
 |h0_97 (a:Int)(b:Rs)(c d:Int)(e f:By)(g i j l:Int)(m n:By)(o:Int)(p:Rs)(q t:Int)
 |h1_97 (a:Int)(b:Rs)(c d:Int)(e f:By)(g i j l:Int)(m n:By)(o:Int)(p:Rs)(q t:Int)
 |e_104 (a:Rs)(b c:Int)
 |h0_104 (a:Int)(b:Rs)(c d:Int)(e f:By)(g:Int)(i:Rs)(j l:Int)
 |h1_104 (a:Int)(b:Rs)(c d:Int)(e f:By)(g:Int)(i:Rs)(j l:Int)
 |h2_104 (a:Int)(b:Rs)(c d:Int)(e f:By)(g:Int)(i:Rs)(j l:Int)
 |e_112 (a:Rs)(b c:Int)
 |h0_112 (a:Int)(b:Rs)(c d:Int)(e f:By)(g:Int)(i:Rs)(j l:Int)
 |h1_112 (a:Int)(b:Rs)(c d:Int)(e f:By)(g:Int)(i:Rs)(j l:Int)
 |h2_112 (a:Int)(b:Rs)(c d:Int)(e f:By)(g:Int)(i:Rs)(j l:Int)
 |h3_112 (a:Int)(b:Rs)(c d:Int)(e f:By)(g:Int)(i:Rs)(j l:Int)
 |h4_112 (a:Int)(b:Rs)(c d:Int)(e f:By)(g:Int)(i:Rs)(j l:Int)
 |h5_112 (a:Int)(b:By)(c d e f g i:Int)(j l:By)(m:Int)(n:Rs)(o p:Int)
 |h6_112 (a:Int)(b:Rs)(c d:Int)(e f:By)(g:Int)(i:Rs)(j l:Int)
 |e_118 (a:Int)(b:By)(c d e:Int)(f:Rs)(g i:Int)
 |h0_118 (a:By)(b:Bool)(c d e:Int)(f g:By)(i j:Int)(l:By)(m n o:Int)(p:Rs)(q t:Int)
 |h1_118 (a b c d:Int)(e f:By)(g i:Int)(j:By)(l m n:Int)(o:Rs)(p q:Int)
 |h2_118 (a:Bool)(b c d:Int)(e f:By)(g i:Int)(j:By)(l m n:Int)(o:Rs)(p q:Int)
 |h3_118 (a:Int)(b:Rs)(c d:Int)(e f:By)(g:Int)(i:Rs)(j l:Int)
 |h4_118 (a:Int)(b:Rs)(c d:Int)(e f:By)(g:Int)(i:Rs)(j l:Int)
 |h5_118 (a:Int)(b:Rs)(c d:Int)(e f:By)(g:Int)(i:Rs)(j l:Int)
 |e_45 (a b:Int)(c:Rs)(d e:Int)(f g:By)(i:Int)(j:Rs)(l m:Int)
 |e_45b (a b:Int)(c:Rs)(d e:Int)(f g:By)(i:Int)(j:Rs)(l m:Int)
 |e_45c (a b:Int)(c:Rs)(d e:Int)(f g:By)(i:Int)(j:Rs)(l m:Int)
 |e_45d (a b:Int)(c:Rs)(d e:Int)(f g:By)(i:Int)(j:Rs)(l m:Int)
 |e_45e (a b:Int)(c:Rs)(d e:Int)(f g:By)(i:Int)(j:Rs)(l m:Int)
abbrev qoQ:=(Int×Int×Rs×Int×Int)⊕(Int×Rs×Int×Int×By×By×Int×Rs×Int×Int)
abbrev qpD:=qoQ
abbrev qpa:=(Int×Int×Rs×Int×Int)⊕(Int×Rs×Int×Int×By×By×Int×Rs×Int×Int)⊕(Int×Rs×Int×Int×By×By×Int×Rs×Int×Int)
abbrev qpF:=qoQ
abbrev qpG:=qoQ
abbrev qpH:=qoQ
abbrev qpd:=qpa
abbrev qpe:=qpa
abbrev qpf:=qoQ
abbrev qpE:=qoQ
abbrev qpg:=qoQ
abbrev qph:=qoQ
abbrev qpi:=qoQ
abbrev qpj:=qoQ
abbrev R24:=qoQ⊕qpD⊕qpa⊕qpF⊕qpG⊕qpH⊕qpd⊕qpe⊕qpf⊕qpE⊕qpg⊕qph⊕qpi⊕qpj
def qpO (o:Option R24):Option qoQ:=o.bind fun|(.inl x)=>some x|_=>none
theorem qo6 {o:Option R24}{v:qoQ}(h:qpO o=some v):o=some (.inl v):=by
 cases o with
 |none=>cases h
 |some r=>
  unfold qpO at h;simp only[ae]at h;split at h
  · injection h with h;rw[h]
  · cases h
def qqp (o:Option R24):Option qpD:=o.bind fun|(.inr (.inl x))=>some x|_=>none
theorem qpQ {o:Option R24}{v:qpD}(h:qqp o=some v):o=some (.inr (.inl v)):=by
 cases o with
 |none=>cases h
 |some r=>
  unfold qqp at h;simp only[ae]at h;split at h
  · injection h with h;rw[h]
  · cases h
def qpp (o:Option R24):Option qpa:=o.bind fun|(.inr (.inr (.inl x)))=>some x|_=>none
theorem qoZ {o:Option R24}{v:qpa}(h:qpp o=some v):o=some (.inr (.inr (.inl v))):=by
 cases o with
 |none=>cases h
 |some r=>
  unfold qpp at h;simp only[ae]at h;split at h
  · injection h with h;rw[h]
  · cases h
def qqa (o:Option R24):Option qpF:=o.bind fun|(.inr (.inr (.inr (.inl x))))=>some x|_=>none
theorem qqZ {o:Option R24}{v:qpF}(h:qqa o=some v):o=some (.inr (.inr (.inr (.inl v)))):=by
 cases o with
 |none=>cases h
 |some r=>
  unfold qqa at h;simp only[ae]at h;split at h
  · injection h with h;rw[h]
  · cases h
def qpY (o:Option R24):Option qpG:=o.bind fun|(.inr (.inr (.inr (.inr (.inl x)))))=>some x|_=>none
theorem qpr {o:Option R24}{v:qpG}(h:qpY o=some v):o=some (.inr (.inr (.inr (.inr (.inl v))))):=by
 cases o with
 |none=>cases h
 |some r=>
  unfold qpY at h;simp only[ae]at h;split at h
  · injection h with h;rw[h]
  · cases h
def qqs (o:Option R24):Option qpH:=o.bind fun|(.inr (.inr (.inr (.inr (.inr (.inl x))))))=>some x|_=>none
theorem qpR {o:Option R24}{v:qpH}(h:qqs o=some v):o=some (.inr (.inr (.inr (.inr (.inr (.inl v)))))):=by
 cases o with
 |none=>cases h
 |some r=>
  unfold qqs at h;simp only[ae]at h;split at h
  · injection h with h;rw[h]
  · cases h
def qoT (o:Option R24):Option qpd:=o.bind fun|(.inr (.inr (.inr (.inr (.inr (.inr (.inl x)))))))=>some x|_=>none
theorem qoS {o:Option R24}{v:qpd}(h:qoT o=some v):o=some (.inr (.inr (.inr (.inr (.inr (.inr (.inl v))))))):=by
 cases o with
 |none=>cases h
 |some r=>
  unfold qoT at h;simp only[ae]at h;split at h
  · injection h with h;rw[h]
  · cases h
def qps (o:Option R24):Option qpe:=o.bind fun|(.inr (.inr (.inr (.inr (.inr (.inr (.inr (.inl x))))))))=>some x|_=>none
theorem qpW {o:Option R24}{v:qpe}(h:qps o=some v):o=some (.inr (.inr (.inr (.inr (.inr (.inr (.inr (.inl v)))))))):=by
 cases o with
 |none=>cases h
 |some r=>
  unfold qps at h;simp only[ae]at h;split at h
  · injection h with h;rw[h]
  · cases h
def qqn (o:Option R24):Option qpf:=o.bind fun|(.inr (.inr (.inr (.inr (.inr (.inr (.inr (.inr (.inl x)))))))))=>some x|_=>none
theorem qqo {o:Option R24}{v:qpf}(h:qqn o=some v):o=some (.inr (.inr (.inr (.inr (.inr (.inr (.inr (.inr (.inl v))))))))):=by
 cases o with
 |none=>cases h
 |some r=>
  unfold qqn at h;simp only[ae]at h;split at h
  · injection h with h;rw[h]
  · cases h
def Yk (o:Option R24):Option qpE:=o.bind fun|(.inr (.inr (.inr (.inr (.inr (.inr (.inr (.inr (.inr (.inl x))))))))))=>some x|_=>none
theorem xg {o:Option R24}{v:qpE}(h:Yk o=some v):o=some (.inr (.inr (.inr (.inr (.inr (.inr (.inr (.inr (.inr (.inl v)))))))))):=by
 cases o with
 |none=>cases h
 |some r=>
  unfold Yk at h;simp only[ae]at h;split at h
  · injection h with h;rw[h]
  · cases h
def qpK (o:Option R24):Option qpg:=o.bind fun|(.inr (.inr (.inr (.inr (.inr (.inr (.inr (.inr (.inr (.inr (.inl x)))))))))))=>some x|_=>none
theorem qpy {o:Option R24}{v:qpg}(h:qpK o=some v):o=some (.inr (.inr (.inr (.inr (.inr (.inr (.inr (.inr (.inr (.inr (.inl v))))))))))):=by
 cases o with
 |none=>cases h
 |some r=>
  unfold qpK at h;simp only[ae]at h;split at h
  · injection h with h;rw[h]
  · cases h
def qqq (o:Option R24):Option qph:=o.bind fun|(.inr (.inr (.inr (.inr (.inr (.inr (.inr (.inr (.inr (.inr (.inr (.inl x))))))))))))=>some x|_=>none
theorem qqr {o:Option R24}{v:qph}(h:qqq o=some v):o=some (.inr (.inr (.inr (.inr (.inr (.inr (.inr (.inr (.inr (.inr (.inr (.inl v)))))))))))):=by
 cases o with
 |none=>cases h
 |some r=>
  unfold qqq at h;simp only[ae]at h;split at h
  · injection h with h;rw[h]
  · cases h
def qpL (o:Option R24):Option qpi:=o.bind fun|(.inr (.inr (.inr (.inr (.inr (.inr (.inr (.inr (.inr (.inr (.inr (.inr (.inl x)))))))))))))=>some x|_=>none
theorem qpz {o:Option R24}{v:qpi}(h:qpL o=some v):o=some (.inr (.inr (.inr (.inr (.inr (.inr (.inr (.inr (.inr (.inr (.inr (.inr (.inl v))))))))))))):=by
 cases o with
 |none=>cases h
 |some r=>
  unfold qpL at h;simp only[ae]at h;split at h
  · injection h with h;rw[h]
  · cases h
def qpM (o:Option R24):Option qpj:=o.bind fun|(.inr (.inr (.inr (.inr (.inr (.inr (.inr (.inr (.inr (.inr (.inr (.inr (.inr x)))))))))))))=>some x|_=>none
theorem qpA {o:Option R24}{v:qpj}(h:qpM o=some v):o=some (.inr (.inr (.inr (.inr (.inr (.inr (.inr (.inr (.inr (.inr (.inr (.inr (.inr v))))))))))))):=by
 cases o with
 |none=>cases h
 |some r=>
  unfold qpM at h;simp only[ae]at h;split at h
  · injection h with h;rw[h]
  · cases h
def qkG:qoQ→ARes
 |(.inl (a,b,_,_,_))=>.panic (.iface 65 (.agg #[.int .i64 a,.int .i64 b]))
 |(.inr (a,b,c,d,e,f,g,_,_,_))=>.ret (.ag [ic a,.imm b,ic c,ic d,sc e,sc f,ic g])
def bx24:qoQ→List (List Cell)
 |(.inl (_,_,a,b,c))=>[[.imm a,ic b,ic c]]
 |(.inr (_,_,_,_,_,_,_,a,b,c))=>[[.imm a,ic b,ic c]]
def rs24:R24→ARes
 |(.inl x)=>qkG x
 |_=>.panic .nilIface
def bs24:R24→List (List Cell)
 |(.inl x)=>bx24 x
 |_=>[]
def qiP:qpD→ARes
 |(.inl (a,b,_,_,_))=>.panic (.iface 65 (.agg #[.int .i64 a,.int .i64 b]))
 |(.inr (a,b,c,d,e,f,g,_,_,_))=>.ret (.ag [ic a,.imm b,ic c,ic d,sc e,sc f,ic g])
def bx43:qpD→List (List Cell)
 |(.inl (_,_,a,b,c))=>[[.imm a,ic b,ic c]]
 |(.inr (_,_,_,_,_,_,_,a,b,c))=>[[.imm a,ic b,ic c]]
def rs43:R24→ARes
 |(.inr (.inl x))=>qiP x
 |_=>.panic .nilIface
def bs43:R24→List (List Cell)
 |(.inr (.inl x))=>bx43 x
 |_=>[]
def qtM:qpa→ARes
 |(.inl (a,b,_,_,_))=>.panic (.iface 65 (.agg #[.int .i64 a,.int .i64 b]))
 |(.inr (.inl (a,b,c,d,e,f,g,_,_,_)))=>.ret (.ag [ic a,.imm b,ic c,ic d,sc e,sc f,ic g])
 |(.inr (.inr (a,b,c,d,e,f,g,_,_,_)))=>.ret (.ag [ic a,.own 7 b,ic c,ic d,sc e,sc f,ic g])
def bx67:qpa→List (List Cell)
 |(.inl (_,_,a,b,c))=>[[.imm a,ic b,ic c]]
 |(.inr (.inl (_,_,_,_,_,_,_,a,b,c)))=>[[.imm a,ic b,ic c]]
 |(.inr (.inr (_,_,_,_,_,_,_,a,b,c)))=>[[.imm a,ic b,ic c]]
def rs67:R24→ARes
 |(.inr (.inr (.inl x)))=>qtM x
 |_=>.panic .nilIface
def bs67:R24→List (List Cell)
 |(.inr (.inr (.inl x)))=>bx67 x
 |_=>[]
def qtQ:qpF→ARes
 |(.inl (a,b,_,_,_))=>.panic (.iface 65 (.agg #[.int .i64 a,.int .i64 b]))
 |(.inr (a,b,c,d,e,f,g,_,_,_))=>.ret (.ag [ic a,.imm b,ic c,ic d,sc e,sc f,ic g])
def bx79:qpF→List (List Cell)
 |(.inl (_,_,a,b,c))=>[[.imm a,ic b,ic c]]
 |(.inr (_,_,_,_,_,_,_,a,b,c))=>[[.imm a,ic b,ic c]]
def rs79:R24→ARes
 |(.inr (.inr (.inr (.inl x))))=>qtQ x
 |_=>.panic .nilIface
def bs79:R24→List (List Cell)
 |(.inr (.inr (.inr (.inl x))))=>bx79 x
 |_=>[]
def qtU:qpG→ARes
 |(.inl (a,b,_,_,_))=>.panic (.iface 65 (.agg #[.int .i64 a,.int .i64 b]))
 |(.inr (a,b,c,d,e,f,g,_,_,_))=>.ret (.ag [ic a,.imm b,ic c,ic d,sc e,sc f,ic g])
def bx89:qpG→List (List Cell)
 |(.inl (_,_,a,b,c))=>[[.imm a,ic b,ic c]]
 |(.inr (_,_,_,_,_,_,_,a,b,c))=>[[.imm a,ic b,ic c]]
def rs89:R24→ARes
 |(.inr (.inr (.inr (.inr (.inl x)))))=>qtU x
 |_=>.panic .nilIface
def bs89:R24→List (List Cell)
 |(.inr (.inr (.inr (.inr (.inl x)))))=>bx89 x
 |_=>[]
def qtV:qpH→ARes
 |(.inl (a,b,_,_,_))=>.panic (.iface 65 (.agg #[.int .i64 a,.int .i64 b]))
 |(.inr (a,b,c,d,e,f,g,_,_,_))=>.ret (.ag [ic a,.imm b,ic c,ic d,sc e,sc f,ic g])
def bx97:qpH→List (List Cell)
 |(.inl (_,_,a,b,c))=>[[.imm a,ic b,ic c]]
 |(.inr (_,_,_,_,_,_,_,a,b,c))=>[[.imm a,ic b,ic c]]
def rs97:R24→ARes
 |(.inr (.inr (.inr (.inr (.inr (.inl x))))))=>qtV x
 |_=>.panic .nilIface
def bs97:R24→List (List Cell)
 |(.inr (.inr (.inr (.inr (.inr (.inl x))))))=>bx97 x
 |_=>[]
def qsg:qpd→ARes
 |(.inl (a,b,_,_,_))=>.panic (.iface 65 (.agg #[.int .i64 a,.int .i64 b]))
 |(.inr (.inl (a,b,c,d,e,f,g,_,_,_)))=>.ret (.ag [ic a,.own 7 b,ic c,ic d,sc e,sc f,ic g])
 |(.inr (.inr (a,b,c,d,e,f,g,_,_,_)))=>.ret (.ag [ic a,.imm b,ic c,ic d,sc e,sc f,ic g])
def qs4:qpd→List (List Cell)
 |(.inl (_,_,a,b,c))=>[[.imm a,ic b,ic c]]
 |(.inr (.inl (_,_,_,_,_,_,_,a,b,c)))=>[[.imm a,ic b,ic c]]
 |(.inr (.inr (_,_,_,_,_,_,_,a,b,c)))=>[[.imm a,ic b,ic c]]
def qrX:R24→ARes
 |(.inr (.inr (.inr (.inr (.inr (.inr (.inl x)))))))=>qsg x
 |_=>.panic .nilIface
def qrG:R24→List (List Cell)
 |(.inr (.inr (.inr (.inr (.inr (.inr (.inl x)))))))=>qs4 x
 |_=>[]
def qsh:qpe→ARes
 |(.inl (a,b,_,_,_))=>.panic (.iface 65 (.agg #[.int .i64 a,.int .i64 b]))
 |(.inr (.inl (a,b,c,d,e,f,g,_,_,_)))=>.ret (.ag [ic a,.imm b,ic c,ic d,sc e,sc f,ic g])
 |(.inr (.inr (a,b,c,d,e,f,g,_,_,_)))=>.ret (.ag [ic a,.own 7 b,ic c,ic d,sc e,sc f,ic g])
def qs5:qpe→List (List Cell)
 |(.inl (_,_,a,b,c))=>[[.imm a,ic b,ic c]]
 |(.inr (.inl (_,_,_,_,_,_,_,a,b,c)))=>[[.imm a,ic b,ic c]]
 |(.inr (.inr (_,_,_,_,_,_,_,a,b,c)))=>[[.imm a,ic b,ic c]]
def qqm:R24→ARes
 |(.inr (.inr (.inr (.inr (.inr (.inr (.inr (.inl x))))))))=>qsh x
 |_=>.panic .nilIface
def qqe:R24→List (List Cell)
 |(.inr (.inr (.inr (.inr (.inr (.inr (.inr (.inl x))))))))=>qs5 x
 |_=>[]
def qsk:qpf→ARes
 |(.inl (a,b,_,_,_))=>.panic (.iface 65 (.agg #[.int .i64 a,.int .i64 b]))
 |(.inr (a,b,c,d,e,f,g,_,_,_))=>.ret (.ag [ic a,.own 7 b,ic c,ic d,sc e,sc f,ic g])
def qs8:qpf→List (List Cell)
 |(.inl (_,_,a,b,c))=>[[.imm a,ic b,ic c]]
 |(.inr (_,_,_,_,_,_,_,a,b,c))=>[[.imm a,ic b,ic c]]
def qqC:R24→ARes
 |(.inr (.inr (.inr (.inr (.inr (.inr (.inr (.inr (.inl x)))))))))=>qsk x
 |_=>.panic .nilIface
def qqv:R24→List (List Cell)
 |(.inr (.inr (.inr (.inr (.inr (.inr (.inr (.inr (.inl x)))))))))=>qs8 x
 |_=>[]
def qly:qpE→ARes
 |(.inl (a,b,_,_,_))=>.panic (.iface 65 (.agg #[.int .i64 a,.int .i64 b]))
 |(.inr (a,b,c,d,e,f,g,_,_,_))=>.ret (.ag [ic a,.own 7 b,ic c,ic d,sc e,sc f,ic g])
def bx45:qpE→List (List Cell)
 |(.inl (_,_,a,b,c))=>[[.imm a,ic b,ic c]]
 |(.inr (_,_,_,_,_,_,_,a,b,c))=>[[.imm a,ic b,ic c]]
def rs45:R24→ARes
 |(.inr (.inr (.inr (.inr (.inr (.inr (.inr (.inr (.inr (.inl x))))))))))=>qly x
 |_=>.panic .nilIface
def bs45:R24→List (List Cell)
 |(.inr (.inr (.inr (.inr (.inr (.inr (.inr (.inr (.inr (.inl x))))))))))=>bx45 x
 |_=>[]
def qsm:qpg→ARes
 |(.inl (a,b,_,_,_))=>.panic (.iface 65 (.agg #[.int .i64 a,.int .i64 b]))
 |(.inr (a,b,c,d,e,f,g,_,_,_))=>.ret (.ag [ic a,.own 7 b,ic c,ic d,sc e,sc f,ic g])
def qta:qpg→List (List Cell)
 |(.inl (_,_,a,b,c))=>[[.imm a,ic b,ic c]]
 |(.inr (_,_,_,_,_,_,_,a,b,c))=>[[.imm a,ic b,ic c]]
def quK:R24→ARes
 |(.inr (.inr (.inr (.inr (.inr (.inr (.inr (.inr (.inr (.inr (.inl x)))))))))))=>qsm x
 |_=>.panic .nilIface
def qt5:R24→List (List Cell)
 |(.inr (.inr (.inr (.inr (.inr (.inr (.inr (.inr (.inr (.inr (.inl x)))))))))))=>qta x
 |_=>[]
def qsn:qph→ARes
 |(.inl (a,b,_,_,_))=>.panic (.iface 65 (.agg #[.int .i64 a,.int .i64 b]))
 |(.inr (a,b,c,d,e,f,g,_,_,_))=>.ret (.ag [ic a,.own 7 b,ic c,ic d,sc e,sc f,ic g])
def qtb:qph→List (List Cell)
 |(.inl (_,_,a,b,c))=>[[.imm a,ic b,ic c]]
 |(.inr (_,_,_,_,_,_,_,a,b,c))=>[[.imm a,ic b,ic c]]
def quL:R24→ARes
 |(.inr (.inr (.inr (.inr (.inr (.inr (.inr (.inr (.inr (.inr (.inr (.inl x))))))))))))=>qsn x
 |_=>.panic .nilIface
def qt6:R24→List (List Cell)
 |(.inr (.inr (.inr (.inr (.inr (.inr (.inr (.inr (.inr (.inr (.inr (.inl x))))))))))))=>qtb x
 |_=>[]
def qso:qpi→ARes
 |(.inl (a,b,_,_,_))=>.panic (.iface 65 (.agg #[.int .i64 a,.int .i64 b]))
 |(.inr (a,b,c,d,e,f,g,_,_,_))=>.ret (.ag [ic a,.own 7 b,ic c,ic d,sc e,sc f,ic g])
def qtc:qpi→List (List Cell)
 |(.inl (_,_,a,b,c))=>[[.imm a,ic b,ic c]]
 |(.inr (_,_,_,_,_,_,_,a,b,c))=>[[.imm a,ic b,ic c]]
def quM:R24→ARes
 |(.inr (.inr (.inr (.inr (.inr (.inr (.inr (.inr (.inr (.inr (.inr (.inr (.inl x)))))))))))))=>qso x
 |_=>.panic .nilIface
def qt7:R24→List (List Cell)
 |(.inr (.inr (.inr (.inr (.inr (.inr (.inr (.inr (.inr (.inr (.inr (.inr (.inl x)))))))))))))=>qtc x
 |_=>[]
def qsp:qpj→ARes
 |(.inl (a,b,_,_,_))=>.panic (.iface 65 (.agg #[.int .i64 a,.int .i64 b]))
 |(.inr (a,b,c,d,e,f,g,_,_,_))=>.ret (.ag [ic a,.own 7 b,ic c,ic d,sc e,sc f,ic g])
def qtd:qpj→List (List Cell)
 |(.inl (_,_,a,b,c))=>[[.imm a,ic b,ic c]]
 |(.inr (_,_,_,_,_,_,_,a,b,c))=>[[.imm a,ic b,ic c]]
def quN:R24→ARes
 |(.inr (.inr (.inr (.inr (.inr (.inr (.inr (.inr (.inr (.inr (.inr (.inr (.inr x)))))))))))))=>qsp x
 |_=>.panic .nilIface
def qt8:R24→List (List Cell)
 |(.inr (.inr (.inr (.inr (.inr (.inr (.inr (.inr (.inr (.inr (.inr (.inr (.inr x)))))))))))))=>qtd x
 |_=>[]
noncomputable def qj6 (k:Nat)(rec:S24→Option R24):S24→Option R24
 |.e_24 a b c=>
  (qqp (rec (.e_43 a b c))).bind fun d=>
  altC d (fun e=>
    tup5 e fun f g i j l=>
    some (.inl (.inl (f,g,i,j,l)))) (fun e=>
    ql e fun m n o p q t u i j l=>
    rec (.h0_24 m n o p q t u 0 0 0 (strB []) (strB []) 0 i j l))
 |.h0_24 a b c d e f g i j l m n o p q t=>
  (g44 k (strB [79,82]) p q t).bind fun u=>
  tup2 u fun v w=>
  bif v then
   (qpM (rec (.e_45e 14 a b c d e f g w q t))).bind fun x=>
   altC x (fun y=>
     tup5 y fun z a1 b1 c1 d1=>
     some (.inl (.inl (z,a1,b1,c1,d1)))) (fun y=>
     ql y fun e1 f1 g1 i1 j1 l1 m1 b1 c1 d1=>
     rec (.h1_24 e1 f1 g1 i1 j1 l1 m1 i j l m n o b1 c1 d1))
  else
   some (.inl (.inr (a,b,c,d,e,f,g,w,q,t)))
 |.h1_24 a b c d e f g i j l m n o p q t=>
  (g44 k (strB [79,82]) p q t).bind fun u=>
  tup2 u fun v w=>
  bif v then
   (qpM (rec (.e_45e 14 a (qG b) c d e f g w q t))).bind fun x=>
   altC x (fun y=>
     tup5 y fun z a1 b1 c1 d1=>
     some (.inl (.inl (z,a1,b1,c1,d1)))) (fun y=>
     ql y fun e1 f1 g1 i1 j1 l1 m1 b1 c1 d1=>
     rec (.h1_24 e1 f1 g1 i1 j1 l1 m1 i j l m n o b1 c1 d1))
  else
   some (.inl (.inr (a,qG b,c,d,e,f,g,w,q,t)))
 |.e_43 a b c=>
  (qpp (rec (.e_67 a b c))).bind fun d=>
  altC d (fun e=>
    tup5 e fun f g i j l=>
    some (.inr (.inl (.inl (f,g,i,j,l))))) (fun m=>altC m (fun e=>
    ql e fun n o p q t u v i j l=>
    rec (.h0_43 n o p q t u v 0 0 0 (strB []) (strB []) 0 i j l)) (fun e=>
    ql e fun n o p q t u v i j l=>
    rec (.h1_43 n o p q t u v 0 0 0 (strB []) (strB []) 0 i j l)))
 |.h0_43 a b c d e f g i j l m n o p q t=>
  (g44 k (strB [65,78,68]) p q t).bind fun u=>
  tup2 u fun v w=>
  bif v then
   (qpL (rec (.e_45d 13 a b c d e f g w q t))).bind fun x=>
   altC x (fun y=>
     tup5 y fun z a1 b1 c1 d1=>
     some (.inr (.inl (.inl (z,a1,b1,c1,d1))))) (fun y=>
     ql y fun e1 f1 g1 i1 j1 l1 m1 b1 c1 d1=>
     rec (.h1_43 e1 f1 g1 i1 j1 l1 m1 i j l m n o b1 c1 d1))
  else
   some (.inr (.inl (.inr (a,b,c,d,e,f,g,w,q,t))))
 |.h1_43 a b c d e f g i j l m n o p q t=>
  (g44 k (strB [65,78,68]) p q t).bind fun u=>
  tup2 u fun v w=>
  bif v then
   (qpL (rec (.e_45d 13 a (qG b) c d e f g w q t))).bind fun x=>
   altC x (fun y=>
     tup5 y fun z a1 b1 c1 d1=>
     some (.inr (.inl (.inl (z,a1,b1,c1,d1))))) (fun y=>
     ql y fun e1 f1 g1 i1 j1 l1 m1 b1 c1 d1=>
     rec (.h1_43 e1 f1 g1 i1 j1 l1 m1 i j l m n o b1 c1 d1))
  else
   some (.inr (.inl (.inr (a,qG b,c,d,e,f,g,w,q,t))))
 |.e_67 a b c=>
  (g44 k (strB [78,79,84]) a b c).bind fun d=>
  tup2 d fun e f=>
  bif !e then
   (qqa (rec (.e_79 f b c))).bind fun g=>
   altC g (fun i=>
     tup5 i fun j l m n o=>
     some (.inr (.inr (.inl (.inl (j,l,m,n,o)))))) (fun i=>
     ql i fun p q t u v w x m n o=>
     some (.inr (.inr (.inl (.inr (.inl (p,q,t,u,v,w,x,m,n,o)))))))
  else
   (g80 k f b c).bind fun g=>
   altC g (fun i=>
     tup5 i fun j l m n o=>
     some (.inr (.inr (.inl (.inl (j,l,m,n,o)))))) (fun i=>
     tup4 i fun y m n o=>
     (qpp (rec (.e_67 m n o))).bind fun z=>
     altC z (fun a1=>
       tup5 a1 fun b1 c1 d1 e1 f1=>
       some (.inr (.inr (.inl (.inl (b1,c1,d1,e1,f1)))))) (fun g1=>altC g1 (fun a1=>
       ql a1 fun i1 j1 l1 m1 n1 o1 p1 d1 e1 f1=>
       some (.inr (.inr (.inl (.inr (.inr (15,[[ic i1,.imm j1,ic l1,ic m1,sc n1,sc o1,ic p1]],0,0,strB [],strB [],y,d1,e1,IntKind.i64.wrap (f1-1)))))))) (fun a1=>
       ql a1 fun i1 j1 l1 m1 n1 o1 p1 d1 e1 f1=>
       some (.inr (.inr (.inl (.inr (.inr (15,[[ic i1,.imm (qG j1),ic l1,ic m1,sc n1,sc o1,ic p1]],0,0,strB [],strB [],y,d1,e1,IntKind.i64.wrap (f1-1))))))))))
 |.e_79 a b c=>
  (qpY (rec (.e_89 a b c))).bind fun d=>
  altC d (fun e=>
    tup5 e fun f g i j l=>
    some (.inr (.inr (.inr (.inl (.inl (f,g,i,j,l))))))) (fun e=>
    ql e fun m n o p q t u i j l=>
    (g90 k (strB [61,32,33,61,32,60,32,60,61,32,62,32,62,61]) 7 i j l).bind fun v=>
    tup2 v fun w x=>
    bif w != 0 then
     (qqq (rec (.e_45c w m n o p q t u x j l))).bind fun y=>
     altC y (fun z=>
       tup5 z fun a1 b1 c1 d1 e1=>
       some (.inr (.inr (.inr (.inl (.inl (a1,b1,c1,d1,e1))))))) (fun z=>
       ql z fun f1 g1 i1 j1 l1 m1 n1 c1 d1 e1=>
       some (.inr (.inr (.inr (.inl (.inr (f1,qG g1,i1,j1,l1,m1,n1,c1,d1,e1)))))))
    else
     some (.inr (.inr (.inr (.inl (.inr (m,n,o,p,q,t,u,x,j,l)))))))
 |.e_89 a b c=>
  (qqs (rec (.e_97 a b c))).bind fun d=>
  altC d (fun e=>
    tup5 e fun f g i j l=>
    some (.inr (.inr (.inr (.inr (.inl (.inl (f,g,i,j,l)))))))) (fun e=>
    ql e fun m n o p q t u i j l=>
    rec (.h0_89 m n o p q t u 0 0 0 (strB []) (strB []) 0 i j l))
 |.h0_89 a b c d e f g i j l m n o p q t=>
  (g90 k (strB [43,32,45]) 1 p q t).bind fun u=>
  tup2 u fun v w=>
  bif v==0 then
   some (.inr (.inr (.inr (.inr (.inl (.inr (a,b,c,d,e,f,g,w,q,t)))))))
  else
   (qpK (rec (.e_45b v a b c d e f g w q t))).bind fun x=>
   altC x (fun y=>
     tup5 y fun z a1 b1 c1 d1=>
     some (.inr (.inr (.inr (.inr (.inl (.inl (z,a1,b1,c1,d1)))))))) (fun y=>
     ql y fun e1 f1 g1 i1 j1 l1 m1 b1 c1 d1=>
     rec (.h1_89 e1 f1 g1 i1 j1 l1 m1 i j l m n o b1 c1 d1))
 |.h1_89 a b c d e f g i j l m n o p q t=>
  (g90 k (strB [43,32,45]) 1 p q t).bind fun u=>
  tup2 u fun v w=>
  bif v==0 then
   some (.inr (.inr (.inr (.inr (.inl (.inr (a,qG b,c,d,e,f,g,w,q,t)))))))
  else
   (qpK (rec (.e_45b v a (qG b) c d e f g w q t))).bind fun x=>
   altC x (fun y=>
     tup5 y fun z a1 b1 c1 d1=>
     some (.inr (.inr (.inr (.inr (.inl (.inl (z,a1,b1,c1,d1)))))))) (fun y=>
     ql y fun e1 f1 g1 i1 j1 l1 m1 b1 c1 d1=>
     rec (.h1_89 e1 f1 g1 i1 j1 l1 m1 i j l m n o b1 c1 d1))
 |.e_97 a b c=>
  (qoT (rec (.e_104 a b c))).bind fun d=>
  altC d (fun e=>
    tup5 e fun f g i j l=>
    some (.inr (.inr (.inr (.inr (.inr (.inl (.inl (f,g,i,j,l))))))))) (fun m=>altC m (fun e=>
    ql e fun n o p q t u v i j l=>
    rec (.h0_97 n o p q t u v 0 0 0 (strB []) (strB []) 0 i j l)) (fun e=>
    ql e fun n o p q t u v i j l=>
    rec (.h1_97 n o p q t u v 0 0 0 (strB []) (strB []) 0 i j l)))
 |.h0_97 a b c d e f g i j l m n o p q t=>
  (g90 k (strB [42,32,47,32,37]) 3 p q t).bind fun u=>
  tup2 u fun v w=>
  bif v==0 then
   some (.inr (.inr (.inr (.inr (.inr (.inl (.inr (a,qG b,c,d,e,f,g,w,q,t))))))))
  else
   (Yk (rec (.e_45 v a (qG b) c d e f g w q t))).bind fun x=>
   altC x (fun y=>
     tup5 y fun z a1 b1 c1 d1=>
     some (.inr (.inr (.inr (.inr (.inr (.inl (.inl (z,a1,b1,c1,d1))))))))) (fun y=>
     ql y fun e1 f1 g1 i1 j1 l1 m1 b1 c1 d1=>
     rec (.h0_97 e1 f1 g1 i1 j1 l1 m1 i j l m n o b1 c1 d1))
 |.h1_97 a b c d e f g i j l m n o p q t=>
  (g90 k (strB [42,32,47,32,37]) 3 p q t).bind fun u=>
  tup2 u fun v w=>
  bif v==0 then
   some (.inr (.inr (.inr (.inr (.inr (.inl (.inr (a,b,c,d,e,f,g,w,q,t))))))))
  else
   (Yk (rec (.e_45 v a b c d e f g w q t))).bind fun x=>
   altC x (fun y=>
     tup5 y fun z a1 b1 c1 d1=>
     some (.inr (.inr (.inr (.inr (.inr (.inl (.inl (z,a1,b1,c1,d1))))))))) (fun y=>
     ql y fun e1 f1 g1 i1 j1 l1 m1 b1 c1 d1=>
     rec (.h0_97 e1 f1 g1 i1 j1 l1 m1 i j l m n o b1 c1 d1))
 |.e_104 a b c=>
  (g44 k (strB [45]) a b c).bind fun d=>
  tup2 d fun e f=>
  bif !e then
   (qps (rec (.e_112 f b c))).bind fun g=>
   altC g (fun i=>
     tup5 i fun j l m n o=>
     some (.inr (.inr (.inr (.inr (.inr (.inr (.inl (.inl (j,l,m,n,o)))))))))) (fun p=>altC p (fun i=>
     ql i fun q t u v w x y m n o=>
     rec (.h0_104 q t u v w x y m n o)) (fun i=>
     ql i fun q t u v w x y m n o=>
     rec (.h1_104 q t u v w x y m n o)))
  else
   (g80 k f b c).bind fun g=>
   altC g (fun i=>
     tup5 i fun j l m n o=>
     some (.inr (.inr (.inr (.inr (.inr (.inr (.inl (.inl (j,l,m,n,o)))))))))) (fun i=>
     tup4 i fun z m n o=>
     (qoT (rec (.e_104 m n o))).bind fun a1=>
     altC a1 (fun b1=>
       tup5 b1 fun c1 d1 e1 f1 g1=>
       some (.inr (.inr (.inr (.inr (.inr (.inr (.inl (.inl (c1,d1,e1,f1,g1)))))))))) (fun i1=>altC i1 (fun b1=>
       ql b1 fun j1 l1 m1 n1 o1 p1 q1 e1 f1 g1=>
       rec (.h2_104 6 [[ic j1,.imm (qG l1),ic m1,ic n1,sc o1,sc p1,ic q1]] 0 0 (strB []) (strB []) z e1 f1 (IntKind.i64.wrap (g1-1)))) (fun b1=>
       ql b1 fun j1 l1 m1 n1 o1 p1 q1 e1 f1 g1=>
       rec (.h2_104 6 [[ic j1,.imm l1,ic m1,ic n1,sc o1,sc p1,ic q1]] 0 0 (strB []) (strB []) z e1 f1 (IntKind.i64.wrap (g1-1))))))
 |.h0_104 a b c d e f g i j l=>some (.inr (.inr (.inr (.inr (.inr (.inr (.inl (.inr (.inr (a,b,c,d,e,f,g,i,j,l))))))))))
 |.h1_104 a b c d e f g i j l=>some (.inr (.inr (.inr (.inr (.inr (.inr (.inl (.inr (.inl (a,b,c,d,e,f,g,i,j,l))))))))))
 |.h2_104 a b c d e f g i j l=>some (.inr (.inr (.inr (.inr (.inr (.inr (.inl (.inr (.inl (a,b,c,d,e,f,g,i,j,l))))))))))
 |.e_112 a b c=>
  (g68 k a b c).bind fun d=>
  tup6 d fun e f g i j l=>
  bif e==3 then
   rec (.h0_112 20 [] g 0 (strB []) (strB []) j l (IntKind.i64.wrap (b+1)) c)
  else
   bif e==4 then
    rec (.h1_112 21 [] g i (strB []) (strB []) j l (IntKind.i64.wrap (b+1)) c)
   else
    bif e==5 then
     rec (.h2_112 23 [] 0 0 f (strB []) j l (IntKind.i64.wrap (b+1)) c)
    else
     bif e==2 then
      (g116 k l b c).bind fun m=>
      altC m (fun n=>
        tup4 n fun o p q t=>
        some (.inr (.inr (.inr (.inr (.inr (.inr (.inr (.inl (.inl (o,p,q,t,c))))))))))) (fun n=>
        tup4 n fun u v q t=>
        rec (.h3_112 24 [] 0 0 u v j q t c))
     else
      bif e==6 then
       bif f.toList==(strB [40]).toList then
        (g80 k l b c).bind fun n=>
        altC n (fun w=>
          tup5 w fun x y z a1 b1=>
          some (.inr (.inr (.inr (.inr (.inr (.inr (.inr (.inl (.inl (x,y,z,a1,b1))))))))))) (fun w=>
          tup4 w fun _ z a1 b1=>
          (qpO (rec (.e_24 z a1 b1))).bind fun c1=>
          altC c1 (fun d1=>
            tup5 d1 fun e1 f1 g1 i1 j1=>
            some (.inr (.inr (.inr (.inr (.inr (.inr (.inr (.inl (.inl (e1,f1,g1,i1,j1))))))))))) (fun d1=>
            ql d1 fun l1 m1 n1 o1 p1 q1 t1 g1 i1 j1=>
            (g117 k (strB [41]) g1 i1 j1).bind fun u1=>
            altC u1 (fun v1=>
              tup4 v1 fun w1 x1 y1 z1=>
              some (.inr (.inr (.inr (.inr (.inr (.inr (.inr (.inl (.inl (w1,x1,y1,z1,j1))))))))))) (fun v1=>
              tup2 v1 fun y1 z1=>
              rec (.h4_112 l1 m1 n1 o1 p1 q1 t1 y1 z1 (IntKind.i64.wrap (j1-1))))))
       else
        rec (.h5_112 e f g i j 0 0 0 (strB []) (strB []) 0 l b c)
      else
       bif e==1 then
        (qqn (rec (.e_118 e f g i j l b c))).bind fun n=>
        altC n (fun w=>
          tup5 w fun x y z a1 b1=>
          some (.inr (.inr (.inr (.inr (.inr (.inr (.inr (.inl (.inl (x,y,z,a1,b1))))))))))) (fun w=>
          ql w fun a2 b2 c2 d2 e2 f2 g2 z a1 b1=>
          rec (.h6_112 a2 b2 c2 d2 e2 f2 g2 z a1 b1))
       else
        rec (.h5_112 e f g i j 0 0 0 (strB []) (strB []) 0 l b c)
 |.h0_112 a b c d e f g i j l=>some (.inr (.inr (.inr (.inr (.inr (.inr (.inr (.inl (.inr (.inl (a,b,c,d,e,f,g,i,j,l)))))))))))
 |.h1_112 a b c d e f g i j l=>some (.inr (.inr (.inr (.inr (.inr (.inr (.inr (.inl (.inr (.inl (a,b,c,d,e,f,g,i,j,l)))))))))))
 |.h2_112 a b c d e f g i j l=>some (.inr (.inr (.inr (.inr (.inr (.inr (.inr (.inl (.inr (.inl (a,b,c,d,e,f,g,i,j,l)))))))))))
 |.h3_112 a b c d e f g i j l=>some (.inr (.inr (.inr (.inr (.inr (.inr (.inr (.inl (.inr (.inl (a,b,c,d,e,f,g,i,j,l)))))))))))
 |.h4_112 a b c d e f g i j l=>some (.inr (.inr (.inr (.inr (.inr (.inr (.inr (.inl (.inr (.inl (a,b,c,d,e,f,g,i,j,l)))))))))))
 |.h5_112 _ _ _ _ a _ _ _ _ _ _ b c d=>some (.inr (.inr (.inr (.inr (.inr (.inr (.inr (.inl (.inl (a,13,b,c,d))))))))))
 |.h6_112 a b c d e f g i j l=>some (.inr (.inr (.inr (.inr (.inr (.inr (.inr (.inl (.inr (.inr (a,b,c,d,e,f,g,i,j,l)))))))))))
 |.e_118 a b c d e f g i=>
  bif b.toList==(strB [84,82,85,69]).toList then
   rec (.h0_118 b true 0 0 0 (strB []) (strB []) 0 a b c d e f g i)
  else
   rec (.h0_118 b (b.toList==(strB [70,65,76,83,69]).toList) 0 0 0 (strB []) (strB []) 0 a b c d e f g i)
 |.h0_118 a b c d e f g i j l m n o p q t=>
  bif b then
   bif l.toList==(strB [84,82,85,69]).toList then
    rec (.h1_118 1 c d e f g i j l m n o p (IntKind.i64.wrap (q+1)) t)
   else
    rec (.h1_118 0 c d e f g i j l m n o p (IntKind.i64.wrap (q+1)) t)
  else
   bif a.toList==(strB [82,69,65,76]).toList then
    rec (.h2_118 true c d e f g i j l m n o p q t)
   else
    rec (.h2_118 (a.toList==(strB [73,83,78,65,78]).toList) c d e f g i j l m n o p q t)
 |.h1_118 a _ _ _ _ _ _ _ _ _ _ b c d e=>rec (.h3_118 22 [] a 0 (strB []) (strB []) b c d e)
 |.h2_118 a _ _ _ _ _ _ b c d e f g i j=>
  bif a then
   (g80 k g i j).bind fun l=>
   altC l (fun m=>
     tup5 m fun n o p q t=>
     some (.inr (.inr (.inr (.inr (.inr (.inr (.inr (.inr (.inl (.inl (n,o,p,q,t)))))))))))) (fun m=>
     tup4 m fun _ p q t=>
     (g117 k (strB [40]) p q t).bind fun u=>
     altC u (fun v=>
       tup4 v fun w x y z=>
       some (.inr (.inr (.inr (.inr (.inr (.inr (.inr (.inr (.inl (.inl (w,x,y,z,t)))))))))))) (fun v=>
       tup2 v fun y z=>
       (qpO (rec (.e_24 y z t))).bind fun a1=>
       altC a1 (fun b1=>
         tup5 b1 fun c1 d1 e1 f1 g1=>
         some (.inr (.inr (.inr (.inr (.inr (.inr (.inr (.inr (.inl (.inl (c1,d1,e1,f1,g1)))))))))))) (fun b1=>
         ql b1 fun i1 j1 l1 m1 n1 o1 p1 e1 f1 g1=>
         (g117 k (strB [41]) e1 f1 g1).bind fun q1=>
         altC q1 (fun t1=>
           tup4 t1 fun u1 v1 w1 x1=>
           some (.inr (.inr (.inr (.inr (.inr (.inr (.inr (.inr (.inl (.inl (u1,v1,w1,x1,g1)))))))))))) (fun t1=>
           tup2 t1 fun w1 x1=>
           bif c.toList==(strB [73,83,78,65,78]).toList then
            rec (.h4_118 17 [[ic i1,.imm j1,ic l1,ic m1,sc n1,sc o1,ic p1]] 0 0 (strB []) (strB []) f w1 x1 (IntKind.i64.wrap (g1-1)))
           else
            rec (.h4_118 16 [[ic i1,.imm j1,ic l1,ic m1,sc n1,sc o1,ic p1]] 0 0 (strB []) (strB []) f w1 x1 (IntKind.i64.wrap (g1-1)))))))
  else
   (g122 k b c d e f g i j).bind fun l=>
   altC l (fun m=>
     tup4 m fun n o p q=>
     some (.inr (.inr (.inr (.inr (.inr (.inr (.inr (.inr (.inl (.inl (n,o,p,q,j)))))))))))) (fun m=>
     tup8 m fun y1 z1 a2 b2 c2 d2 p q=>
     rec (.h5_118 y1 [] z1 a2 b2 c2 d2 p q j))
 |.h3_118 a b c d e f g i j l=>some (.inr (.inr (.inr (.inr (.inr (.inr (.inr (.inr (.inl (.inr (a,b,c,d,e,f,g,i,j,l)))))))))))
 |.h4_118 a b c d e f g i j l=>some (.inr (.inr (.inr (.inr (.inr (.inr (.inr (.inr (.inl (.inr (a,b,c,d,e,f,g,i,j,l)))))))))))
 |.h5_118 a b c d e f g i j l=>some (.inr (.inr (.inr (.inr (.inr (.inr (.inr (.inr (.inl (.inr (a,b,c,d,e,f,g,i,j,l)))))))))))
 |.e_45 a b c d e f g i j l m=>
  (g68 k j l m).bind fun n=>
  tup6 n fun _ _ _ _ o p=>
  (qoT (rec (.e_104 p (IntKind.i64.wrap (l+1)) m))).bind fun q=>
  altC q (fun t=>
    tup5 t fun u v w x y=>
    some (.inr (.inr (.inr (.inr (.inr (.inr (.inr (.inr (.inr (.inl (.inl (u,v,w,x,y))))))))))))) (fun z=>altC z (fun t=>
    ql t fun a1 b1 c1 d1 e1 f1 g1 w x y=>
    some (.inr (.inr (.inr (.inr (.inr (.inr (.inr (.inr (.inr (.inl (.inr (a,[[ic b,.imm c,ic d,ic e,sc f,sc g,ic i],[ic a1,.own 7 b1,ic c1,ic d1,sc e1,sc f1,ic g1]],0,0,strB [],strB [],o,w,x,y))))))))))))) (fun t=>
    ql t fun a1 b1 c1 d1 e1 f1 g1 w x y=>
    some (.inr (.inr (.inr (.inr (.inr (.inr (.inr (.inr (.inr (.inl (.inr (a,[[ic b,.imm c,ic d,ic e,sc f,sc g,ic i],[ic a1,.imm b1,ic c1,ic d1,sc e1,sc f1,ic g1]],0,0,strB [],strB [],o,w,x,y))))))))))))))
 |.e_45b a b c d e f g i j l m=>
  (g68 k j l m).bind fun n=>
  tup6 n fun _ _ _ _ o p=>
  (qqs (rec (.e_97 p (IntKind.i64.wrap (l+1)) m))).bind fun q=>
  altC q (fun t=>
    tup5 t fun u v w x y=>
    some (.inr (.inr (.inr (.inr (.inr (.inr (.inr (.inr (.inr (.inr (.inl (.inl (u,v,w,x,y)))))))))))))) (fun t=>
    ql t fun z a1 b1 c1 d1 e1 f1 w x y=>
    some (.inr (.inr (.inr (.inr (.inr (.inr (.inr (.inr (.inr (.inr (.inl (.inr (a,[[ic b,.imm c,ic d,ic e,sc f,sc g,ic i],[ic z,.imm a1,ic b1,ic c1,sc d1,sc e1,ic f1]],0,0,strB [],strB [],o,w,x,y))))))))))))))
 |.e_45c a b c d e f g i j l m=>
  (g68 k j l m).bind fun n=>
  tup6 n fun _ _ _ _ o p=>
  (qpY (rec (.e_89 p (IntKind.i64.wrap (l+1)) m))).bind fun q=>
  altC q (fun t=>
    tup5 t fun u v w x y=>
    some (.inr (.inr (.inr (.inr (.inr (.inr (.inr (.inr (.inr (.inr (.inr (.inl (.inl (u,v,w,x,y))))))))))))))) (fun t=>
    ql t fun z a1 b1 c1 d1 e1 f1 w x y=>
    some (.inr (.inr (.inr (.inr (.inr (.inr (.inr (.inr (.inr (.inr (.inr (.inl (.inr (a,[[ic b,.imm c,ic d,ic e,sc f,sc g,ic i],[ic z,.imm a1,ic b1,ic c1,sc d1,sc e1,ic f1]],0,0,strB [],strB [],o,w,x,y)))))))))))))))
 |.e_45d a b c d e f g i j l m=>
  (g68 k j l m).bind fun n=>
  tup6 n fun _ _ _ _ o p=>
  (qpp (rec (.e_67 p (IntKind.i64.wrap (l+1)) m))).bind fun q=>
  altC q (fun t=>
    tup5 t fun u v w x y=>
    some (.inr (.inr (.inr (.inr (.inr (.inr (.inr (.inr (.inr (.inr (.inr (.inr (.inl (.inl (u,v,w,x,y)))))))))))))))) (fun z=>altC z (fun t=>
    ql t fun a1 b1 c1 d1 e1 f1 g1 w x y=>
    some (.inr (.inr (.inr (.inr (.inr (.inr (.inr (.inr (.inr (.inr (.inr (.inr (.inl (.inr (a,[[ic b,.imm c,ic d,ic e,sc f,sc g,ic i],[ic a1,.imm b1,ic c1,ic d1,sc e1,sc f1,ic g1]],0,0,strB [],strB [],o,w,x,y)))))))))))))))) (fun t=>
    ql t fun a1 b1 c1 d1 e1 f1 g1 w x y=>
    some (.inr (.inr (.inr (.inr (.inr (.inr (.inr (.inr (.inr (.inr (.inr (.inr (.inl (.inr (a,[[ic b,.imm c,ic d,ic e,sc f,sc g,ic i],[ic a1,.own 7 b1,ic c1,ic d1,sc e1,sc f1,ic g1]],0,0,strB [],strB [],o,w,x,y)))))))))))))))))
 |.e_45e a b c d e f g i j l m=>
  (g68 k j l m).bind fun n=>
  tup6 n fun _ _ _ _ o p=>
  (qqp (rec (.e_43 p (IntKind.i64.wrap (l+1)) m))).bind fun q=>
  altC q (fun t=>
    tup5 t fun u v w x y=>
    some (.inr (.inr (.inr (.inr (.inr (.inr (.inr (.inr (.inr (.inr (.inr (.inr (.inr (.inl (u,v,w,x,y)))))))))))))))) (fun t=>
    ql t fun z a1 b1 c1 d1 e1 f1 w x y=>
    some (.inr (.inr (.inr (.inr (.inr (.inr (.inr (.inr (.inr (.inr (.inr (.inr (.inr (.inr (a,[[ic b,.imm c,ic d,ic e,sc f,sc g,ic i],[ic z,.imm a1,ic b1,ic c1,sc d1,sc e1,ic f1]],0,0,strB [],strB [],o,w,x,y))))))))))))))))
noncomputable def g24 (k:Nat)(a:Rs)(b c:Int):Option qoQ:=qpO (itS qj6 k (.e_24 a b c))
noncomputable def P24:S24→R24→Prop
 |.e_24 a b c,r=>Fin cx24 Tryz.f24 [.code qj4] (fr0 Tryz.f24 [pP 0] [[.imm a,ic b,ic c]]) (rs24 r) (bs24 r)
 |.h0_24 a b c d e f g i j l m n o p q t,r=>Fin cx24 Tryz.f24 (kAt qj4 [1,1,0,0,4] []) ⟨[pP 0,.deadv,pL 2,pL 3]++rep 10 .deadv,[(.loc 3,[ic a,.imm b,ic c,ic d,sc e,sc f,ic g]),(.loc 2,[ic i,.nil,ic j,ic l,sc m,sc n,ic o]),(.par 0,[.imm p,ic q,ic t])]⟩ (rs24 r) (bs24 r)
 |.h1_24 a b c d e f g i j l m n o p q t,r=>Fin cx24 Tryz.f24 (kAt qj4 [1,1,0,0,4] []) ⟨[pP 0,.deadv,pL 2,pL 3]++rep 10 .deadv,[(.loc 3,[ic a,.own 7 b,ic c,ic d,sc e,sc f,ic g]),(.loc 2,[ic i,.nil,ic j,ic l,sc m,sc n,ic o]),(.par 0,[.imm p,ic q,ic t])]⟩ (rs24 r) (bs24 r)
 |.e_43 a b c,r=>Fin cx43 Tryz.f43 [.code qgV] (fr0 Tryz.f43 [pP 0] [[.imm a,ic b,ic c]]) (rs43 r) (bs43 r)
 |.h0_43 a b c d e f g i j l m n o p q t,r=>Fin cx43 Tryz.f43 (kAt qgV [1,1,0,0,4] []) ⟨[pP 0,.deadv,pL 2,pL 3]++rep 10 .deadv,[(.loc 3,[ic a,.imm b,ic c,ic d,sc e,sc f,ic g]),(.loc 2,[ic i,.nil,ic j,ic l,sc m,sc n,ic o]),(.par 0,[.imm p,ic q,ic t])]⟩ (rs43 r) (bs43 r)
 |.h1_43 a b c d e f g i j l m n o p q t,r=>Fin cx43 Tryz.f43 (kAt qgV [1,1,0,0,4] []) ⟨[pP 0,.deadv,pL 2,pL 3]++rep 10 .deadv,[(.loc 3,[ic a,.own 7 b,ic c,ic d,sc e,sc f,ic g]),(.loc 2,[ic i,.nil,ic j,ic l,sc m,sc n,ic o]),(.par 0,[.imm p,ic q,ic t])]⟩ (rs43 r) (bs43 r)
 |.e_67 a b c,r=>Fin cx67 Tryz.f67 [.code qsX] (fr0 Tryz.f67 [pP 0] [[.imm a,ic b,ic c]]) (rs67 r) (bs67 r)
 |.e_79 a b c,r=>Fin cx79 Tryz.f79 [.code qs0] (fr0 Tryz.f79 [pP 0] [[.imm a,ic b,ic c]]) (rs79 r) (bs79 r)
 |.e_89 a b c,r=>Fin cx89 Tryz.f89 [.code qrh] (fr0 Tryz.f89 [pP 0] [[.imm a,ic b,ic c]]) (rs89 r) (bs89 r)
 |.h0_89 a b c d e f g i j l m n o p q t,r=>Fin cx89 Tryz.f89 (kAt qrh [1,1,0,4] []) ⟨[pP 0,.deadv,pL 2,pL 3]++rep 14 .deadv,[(.loc 3,[ic a,.imm b,ic c,ic d,sc e,sc f,ic g]),(.loc 2,[ic i,.nil,ic j,ic l,sc m,sc n,ic o]),(.par 0,[.imm p,ic q,ic t])]⟩ (rs89 r) (bs89 r)
 |.h1_89 a b c d e f g i j l m n o p q t,r=>Fin cx89 Tryz.f89 (kAt qrh [1,1,0,4] []) ⟨[pP 0,.deadv,pL 2,pL 3]++rep 14 .deadv,[(.loc 3,[ic a,.own 7 b,ic c,ic d,sc e,sc f,ic g]),(.loc 2,[ic i,.nil,ic j,ic l,sc m,sc n,ic o]),(.par 0,[.imm p,ic q,ic t])]⟩ (rs89 r) (bs89 r)
 |.e_97 a b c,r=>Fin cx97 Tryz.f97 [.code qri] (fr0 Tryz.f97 [pP 0] [[.imm a,ic b,ic c]]) (rs97 r) (bs97 r)
 |.h0_97 a b c d e f g i j l m n o p q t,r=>Fin cx97 Tryz.f97 (kAt qri [1,1,0,4] []) ⟨[pP 0,.deadv,pL 2,pL 3]++rep 14 .deadv,[(.loc 3,[ic a,.own 7 b,ic c,ic d,sc e,sc f,ic g]),(.loc 2,[ic i,.nil,ic j,ic l,sc m,sc n,ic o]),(.par 0,[.imm p,ic q,ic t])]⟩ (rs97 r) (bs97 r)
 |.h1_97 a b c d e f g i j l m n o p q t,r=>Fin cx97 Tryz.f97 (kAt qri [1,1,0,4] []) ⟨[pP 0,.deadv,pL 2,pL 3]++rep 14 .deadv,[(.loc 3,[ic a,.imm b,ic c,ic d,sc e,sc f,ic g]),(.loc 2,[ic i,.nil,ic j,ic l,sc m,sc n,ic o]),(.par 0,[.imm p,ic q,ic t])]⟩ (rs97 r) (bs97 r)
 |.e_104 a b c,r=>Fin qrI Tryz.f104 [.code qp4] (fr0 Tryz.f104 [pP 0] [[.imm a,ic b,ic c]]) (qrX r) (qrG r)
 |.h0_104 a b c d e f g i j l,r=>Fin qrI Tryz.f104 (kAt qp4 [1,0,1,0,1,2] []) ⟨[.deadv,.deadv,pL 2]++rep 22 .deadv,[(.loc 2,[ic a,.imm b,ic c,ic d,sc e,sc f,ic g]),(.par 0,[.imm i,ic j,ic l])]⟩ (qrX r) (qrG r)
 |.h1_104 a b c d e f g i j l,r=>Fin qrI Tryz.f104 (kAt qp4 [1,0,1,0,1,2] []) ⟨[.deadv,.deadv,pL 2]++rep 22 .deadv,[(.loc 2,[ic a,.own 7 b,ic c,ic d,sc e,sc f,ic g]),(.par 0,[.imm i,ic j,ic l])]⟩ (qrX r) (qrG r)
 |.h2_104 a b c d e f g i j l,r=>Fin qrI Tryz.f104 (kAt qp4 [1,1,1,1,1,1,2] []) ⟨[.deadv,.deadv,pL 2]++rep 22 .deadv,[(.loc 2,[ic a,.own 7 b,ic c,ic d,sc e,sc f,ic g]),(.par 0,[.imm i,ic j,ic l])]⟩ (qrX r) (qrG r)
 |.e_112 a b c,r=>Fin qqg Tryz.f112 [.code qpm] (fr0 Tryz.f112 [pP 0] [[.imm a,ic b,ic c]]) (qqm r) (qqe r)
 |.h0_112 a b c d e f g i j l,r=>Fin qqg Tryz.f112 (kAt qpm [1,1,0,1,0,1,0,1,1,2] []) ⟨[.deadv,.deadv,pL 2]++rep 92 .deadv,[(.loc 2,[ic a,.imm b,ic c,ic d,sc e,sc f,ic g]),(.par 0,[.imm i,ic j,ic l])]⟩ (qqm r) (qqe r)
 |.h1_112 a b c d e f g i j l,r=>Fin qqg Tryz.f112 (kAt qpm [1,1,0,1,0,1,1,1,0,1,1,2] []) ⟨[.deadv,.deadv,pL 2]++rep 92 .deadv,[(.loc 2,[ic a,.imm b,ic c,ic d,sc e,sc f,ic g]),(.par 0,[.imm i,ic j,ic l])]⟩ (qqm r) (qqe r)
 |.h2_112 a b c d e f g i j l,r=>Fin qqg Tryz.f112 (kAt qpm [1,1,0,1,0,1,1,1,1,1,0,1,1,2] []) ⟨[.deadv,.deadv,pL 2]++rep 92 .deadv,[(.loc 2,[ic a,.imm b,ic c,ic d,sc e,sc f,ic g]),(.par 0,[.imm i,ic j,ic l])]⟩ (qqm r) (qqe r)
 |.h3_112 a b c d e f g i j l,r=>Fin qqg Tryz.f112 (kAt qpm [1,1,0,1,0,1,1,1,1,1,1,1,0,1,1,2] []) ⟨[.deadv,.deadv,pL 2]++rep 92 .deadv,[(.loc 2,[ic a,.imm b,ic c,ic d,sc e,sc f,ic g]),(.par 0,[.imm i,ic j,ic l])]⟩ (qqm r) (qqe r)
 |.h4_112 a b c d e f g i j l,r=>Fin qqg Tryz.f112 (kAt qpm [1,1,0,1,0,1,1,1,1,1,1,1,1,1,0,1,0,1,1,1,1,1,2] []) ⟨[.deadv,.deadv,pL 2]++rep 92 .deadv,[(.loc 2,[ic a,.imm b,ic c,ic d,sc e,sc f,ic g]),(.par 0,[.imm i,ic j,ic l])]⟩ (qqm r) (qqe r)
 |.h5_112 a b c d e f g i j l m n o p,r=>Fin qqg Tryz.f112 (kAt qpm [1,1,1,2] []) ⟨[.deadv,.deadv,pL 2,pL 3]++rep 91 .deadv,[(.loc 3,[ic a,sc b,ic c,ic d,ic e]),(.loc 2,[ic f,.nil,ic g,ic i,sc j,sc l,ic m]),(.par 0,[.imm n,ic o,ic p])]⟩ (qqm r) (qqe r)
 |.h6_112 a b c d e f g i j l,r=>Fin qqg Tryz.f112 (kAt qpm [1,1,0,1,0,1,1,1,1,1,1,1,1,1,1,1,0,1,2] []) ⟨[.deadv,.deadv,pL 2]++rep 92 .deadv,[(.loc 2,[ic a,.own 7 b,ic c,ic d,sc e,sc f,ic g]),(.par 0,[.imm i,ic j,ic l])]⟩ (qqm r) (qqe r)
 |.e_118 a b c d e f g i,r=>Fin qqx Tryz.f118 [.code qpv] (fr0 Tryz.f118 [pP 0,.ag [ic a,sc b,ic c,ic d,ic e]] [[.imm f,ic g,ic i]]) (qqC r) (qqv r)
 |.h0_118 a b c d e f g i j l m n o p q t,r=>Fin qqx Tryz.f118 (kAt qpv [1,0,1,0,1,2] []) ⟨[pP 0,.deadv,.deadv,pL 3,pL 4]++rep 4 .deadv++[.c (sc a),.c (bc b)]++rep 46 .deadv,[(.loc 4,[ic c,.nil,ic d,ic e,sc f,sc g,ic i]),(.loc 3,[ic j,sc l,ic m,ic n,ic o]),(.par 0,[.imm p,ic q,ic t])]⟩ (qqC r) (qqv r)
 |.h1_118 a b c d e f g i j l m n o p q,r=>Fin qqx Tryz.f118 (kAt qpv [1,0,1,0,1,0,1,1,1,2] []) ⟨rep 3 .deadv++[pL 3,pL 4,.c (ic a)]++rep 51 .deadv,[(.loc 4,[ic b,.nil,ic c,ic d,sc e,sc f,ic g]),(.loc 3,[ic i,sc j,ic l,ic m,ic n]),(.par 0,[.imm o,ic p,ic q])]⟩ (qqC r) (qqv r)
 |.h2_118 a b c d e f g i j l m n o p q,r=>Fin qqx Tryz.f118 (kAt qpv [1,0,1,0,1,1,1,2] []) ⟨[pP 0,.deadv,.deadv,pL 3,pL 4]++rep 22 .deadv++[.c (bc a)]++rep 29 .deadv,[(.loc 4,[ic b,.nil,ic c,ic d,sc e,sc f,ic g]),(.loc 3,[ic i,sc j,ic l,ic m,ic n]),(.par 0,[.imm o,ic p,ic q])]⟩ (qqC r) (qqv r)
 |.h3_118 a b c d e f g i j l,r=>Fin qqx Tryz.f118 (kAt qpv [1,0,1,0,1,0,1,1,1,1,2] []) ⟨rep 4 .deadv++[pL 4]++rep 52 .deadv,[(.loc 4,[ic a,.own 7 b,ic c,ic d,sc e,sc f,ic g]),(.par 0,[.imm i,ic j,ic l])]⟩ (qqC r) (qqv r)
 |.h4_118 a b c d e f g i j l,r=>Fin qqx Tryz.f118 (kAt qpv [1,0,1,0,1,1,1,0,1,1,1,1,1,1,1,1,2] []) ⟨rep 4 .deadv++[pL 4]++rep 52 .deadv,[(.loc 4,[ic a,.own 7 b,ic c,ic d,sc e,sc f,ic g]),(.par 0,[.imm i,ic j,ic l])]⟩ (qqC r) (qqv r)
 |.h5_118 a b c d e f g i j l,r=>Fin qqx Tryz.f118 (kAt qpv [1,1,1,2] []) ⟨rep 4 .deadv++[pL 4]++rep 52 .deadv,[(.loc 4,[ic a,.own 7 b,ic c,ic d,sc e,sc f,ic g]),(.par 0,[.imm i,ic j,ic l])]⟩ (qqC r) (qqv r)
 |.e_45 a b c d e f g i j l m,r=>Fin cx45 Tryz.f45 [.code qm7] (fr0 Tryz.f45 [pP 0,.c (ic a),.ag [ic b,.imm c,ic d,ic e,sc f,sc g,ic i],.c (.clo 104 [.ptr ⟨⟨.par 0,[]⟩,0,0⟩] [])] [[.imm j,ic l,ic m]]) (rs45 r) (bs45 r)
 |.e_45b a b c d e f g i j l m,r=>Fin cx45 Tryz.f45 [.code qm7] (fr0 Tryz.f45 [pP 0,.c (ic a),.ag [ic b,.imm c,ic d,ic e,sc f,sc g,ic i],.c (.clo 97 [.ptr ⟨⟨.par 0,[]⟩,0,0⟩] [])] [[.imm j,ic l,ic m]]) (quK r) (qt5 r)
 |.e_45c a b c d e f g i j l m,r=>Fin cx45 Tryz.f45 [.code qm7] (fr0 Tryz.f45 [pP 0,.c (ic a),.ag [ic b,.imm c,ic d,ic e,sc f,sc g,ic i],.c (.clo 89 [.ptr ⟨⟨.par 0,[]⟩,0,0⟩] [])] [[.imm j,ic l,ic m]]) (quL r) (qt6 r)
 |.e_45d a b c d e f g i j l m,r=>Fin cx45 Tryz.f45 [.code qm7] (fr0 Tryz.f45 [pP 0,.c (ic a),.ag [ic b,.imm c,ic d,ic e,sc f,sc g,ic i],.c (.clo 67 [.ptr ⟨⟨.par 0,[]⟩,0,0⟩] [])] [[.imm j,ic l,ic m]]) (quM r) (qt7 r)
 |.e_45e a b c d e f g i j l m,r=>Fin cx45 Tryz.f45 [.code qm7] (fr0 Tryz.f45 [pP 0,.c (ic a),.ag [ic b,.imm c,ic d,ic e,sc f,sc g,ic i],.c (.clo 43 [.ptr ⟨⟨.par 0,[]⟩,0,0⟩] [])] [[.imm j,ic l,ic m]]) (quN r) (qt8 r)
abbrev E24 (a:Rs)(b c:Int)(r:qoQ):Prop:=Ev Tryz.prog noHand 24 [pP 0] [[.imm a,ic b,ic c]] (qkG r) (bx24 r)
theorem qnW {a:Rs}{b c:Int}{r:qoQ}(h:P24 (.e_24 a b c) (.inl r)):E24 a b c r:=evF h
abbrev E43 (a:Rs)(b c:Int)(r:qpD):Prop:=Ev Tryz.prog noHand 43 [pP 0] [[.imm a,ic b,ic c]] (qiP r) (bx43 r)
theorem qnm {a:Rs}{b c:Int}{r:qpD}(h:P24 (.e_43 a b c) (.inr (.inl r))):E43 a b c r:=evF h
abbrev E67 (a:Rs)(b c:Int)(r:qpa):Prop:=Ev Tryz.prog noHand 67 [pP 0] [[.imm a,ic b,ic c]] (qtM r) (bx67 r)
theorem qp7 {a:Rs}{b c:Int}{r:qpa}(h:P24 (.e_67 a b c) (.inr (.inr (.inl r)))):E67 a b c r:=evF h
abbrev E79 (a:Rs)(b c:Int)(r:qpF):Prop:=Ev Tryz.prog noHand 79 [pP 0] [[.imm a,ic b,ic c]] (qtQ r) (bx79 r)
theorem qtq {a:Rs}{b c:Int}{r:qpF}(h:P24 (.e_79 a b c) (.inr (.inr (.inr (.inl r))))):E79 a b c r:=evF h
abbrev E89 (a:Rs)(b c:Int)(r:qpG):Prop:=Ev Tryz.prog noHand 89 [pP 0] [[.imm a,ic b,ic c]] (qtU r) (bx89 r)
theorem qq8 {a:Rs}{b c:Int}{r:qpG}(h:P24 (.e_89 a b c) (.inr (.inr (.inr (.inr (.inl r)))))):E89 a b c r:=evF h
abbrev E97 (a:Rs)(b c:Int)(r:qpH):Prop:=Ev Tryz.prog noHand 97 [pP 0] [[.imm a,ic b,ic c]] (qtV r) (bx97 r)
theorem qrL {a:Rs}{b c:Int}{r:qpH}(h:P24 (.e_97 a b c) (.inr (.inr (.inr (.inr (.inr (.inl r))))))):E97 a b c r:=evF h
abbrev E104 (a:Rs)(b c:Int)(r:qpd):Prop:=Ev Tryz.prog noHand 104 [pP 0] [[.imm a,ic b,ic c]] (qsg r) (qs4 r)
theorem qpx {a:Rs}{b c:Int}{r:qpd}(h:P24 (.e_104 a b c) (.inr (.inr (.inr (.inr (.inr (.inr (.inl r)))))))):E104 a b c r:=evF h
abbrev E112 (a:Rs)(b c:Int)(r:qpe):Prop:=Ev Tryz.prog noHand 112 [pP 0] [[.imm a,ic b,ic c]] (qsh r) (qs5 r)
theorem qrm {a:Rs}{b c:Int}{r:qpe}(h:P24 (.e_112 a b c) (.inr (.inr (.inr (.inr (.inr (.inr (.inr (.inl r))))))))):E112 a b c r:=evF h
abbrev E118 (a:Int)(b:By)(c d e:Int)(f:Rs)(g i:Int)(r:qpf):Prop:=Ev Tryz.prog noHand 118 [pP 0,.ag [ic a,sc b,ic c,ic d,ic e]] [[.imm f,ic g,ic i]] (qsk r) (qs8 r)
theorem qr7 {a:Int}{b:By}{c d e:Int}{f:Rs}{g i:Int}{r:qpf}(h:P24 (.e_118 a b c d e f g i) (.inr (.inr (.inr (.inr (.inr (.inr (.inr (.inr (.inl r)))))))))):E118 a b c d e f g i r:=evF h
abbrev E45 (a b:Int)(c:Rs)(d e:Int)(f g:By)(i:Int)(j:Rs)(l m:Int)(r:qpE):Prop:=Ev Tryz.prog noHand 45 [pP 0,.c (ic a),.ag [ic b,.imm c,ic d,ic e,sc f,sc g,ic i],.c (.clo 104 [.ptr ⟨⟨.par 0,[]⟩,0,0⟩] [])] [[.imm j,ic l,ic m]] (qly r) (bx45 r)
theorem qcv {a b:Int}{c:Rs}{d e:Int}{f g:By}{i:Int}{j:Rs}{l m:Int}{r:qpE}(h:P24 (.e_45 a b c d e f g i j l m) (.inr (.inr (.inr (.inr (.inr (.inr (.inr (.inr (.inr (.inl r))))))))))):E45 a b c d e f g i j l m r:=evF h
abbrev E45b (a b:Int)(c:Rs)(d e:Int)(f g:By)(i:Int)(j:Rs)(l m:Int)(r:qpg):Prop:=Ev Tryz.prog noHand 45 [pP 0,.c (ic a),.ag [ic b,.imm c,ic d,ic e,sc f,sc g,ic i],.c (.clo 97 [.ptr ⟨⟨.par 0,[]⟩,0,0⟩] [])] [[.imm j,ic l,ic m]] (qsm r) (qta r)
theorem qqH {a b:Int}{c:Rs}{d e:Int}{f g:By}{i:Int}{j:Rs}{l m:Int}{r:qpg}(h:P24 (.e_45b a b c d e f g i j l m) (.inr (.inr (.inr (.inr (.inr (.inr (.inr (.inr (.inr (.inr (.inl r)))))))))))):E45b a b c d e f g i j l m r:=evF h
abbrev E45c (a b:Int)(c:Rs)(d e:Int)(f g:By)(i:Int)(j:Rs)(l m:Int)(r:qph):Prop:=Ev Tryz.prog noHand 45 [pP 0,.c (ic a),.ag [ic b,.imm c,ic d,ic e,sc f,sc g,ic i],.c (.clo 89 [.ptr ⟨⟨.par 0,[]⟩,0,0⟩] [])] [[.imm j,ic l,ic m]] (qsn r) (qtb r)
theorem qr8 {a b:Int}{c:Rs}{d e:Int}{f g:By}{i:Int}{j:Rs}{l m:Int}{r:qph}(h:P24 (.e_45c a b c d e f g i j l m) (.inr (.inr (.inr (.inr (.inr (.inr (.inr (.inr (.inr (.inr (.inr (.inl r))))))))))))):E45c a b c d e f g i j l m r:=evF h
abbrev E45d (a b:Int)(c:Rs)(d e:Int)(f g:By)(i:Int)(j:Rs)(l m:Int)(r:qpi):Prop:=Ev Tryz.prog noHand 45 [pP 0,.c (ic a),.ag [ic b,.imm c,ic d,ic e,sc f,sc g,ic i],.c (.clo 67 [.ptr ⟨⟨.par 0,[]⟩,0,0⟩] [])] [[.imm j,ic l,ic m]] (qso r) (qtc r)
theorem qqI {a b:Int}{c:Rs}{d e:Int}{f g:By}{i:Int}{j:Rs}{l m:Int}{r:qpi}(h:P24 (.e_45d a b c d e f g i j l m) (.inr (.inr (.inr (.inr (.inr (.inr (.inr (.inr (.inr (.inr (.inr (.inr (.inl r)))))))))))))):E45d a b c d e f g i j l m r:=evF h
abbrev E45e (a b:Int)(c:Rs)(d e:Int)(f g:By)(i:Int)(j:Rs)(l m:Int)(r:qpj):Prop:=Ev Tryz.prog noHand 45 [pP 0,.c (ic a),.ag [ic b,.imm c,ic d,ic e,sc f,sc g,ic i],.c (.clo 43 [.ptr ⟨⟨.par 0,[]⟩,0,0⟩] [])] [[.imm j,ic l,ic m]] (qsp r) (qtd r)
theorem qqJ {a b:Int}{c:Rs}{d e:Int}{f g:By}{i:Int}{j:Rs}{l m:Int}{r:qpj}(h:P24 (.e_45e a b c d e f g i j l m) (.inr (.inr (.inr (.inr (.inr (.inr (.inr (.inr (.inr (.inr (.inr (.inr (.inr r)))))))))))))):E45e a b c d e f g i j l m r:=evF h
theorem ok24:∀ k s r,itS qj6 k s=some r→P24 s r:=qF fun k rec ih s r h=>match s,h with
 |.e_24 ..,h=>by
  obtain⟨_,a,h⟩:=qh h;replace h:=qf h;rcases h with⟨_,rfl,h⟩|⟨_,rfl,h⟩
  · replace h:=t5 h;cases h;exact mF 1 [cA 5 (qnm (ih _ _ (qpQ a)))]
  · replace h:=t10 h;exact mA 1 (ih _ _ h) 7 [cA 5 (qnm (ih _ _ (qpQ a)))] 14 16370
 |.h0_24 ..,h=>by
  obtain⟨_,a,h⟩:=qh h;replace h:=QD h;obtain⟨_,_,rfl,h⟩:=h;replace h:=qa h;rcases h with⟨rfl,h⟩|⟨rfl,h⟩
  · obtain⟨_,b,h⟩:=qh h;replace h:=qf h;rcases h with⟨_,rfl,h⟩|⟨_,rfl,h⟩
    · replace h:=t5 h;cases h;exact mF 1 [cA 7 (ev44 a),cA 12 (qqJ (ih _ _ (qpA b)))]
    · replace h:=t10 h;exact mA 1 (ih _ _ h) 9 [cA 7 (ev44 a),cA 12 (qqJ (ih _ _ (qpA b)))] 14 16370
  · cases h;exact mF 1 [cA 7 (ev44 a)]
 |.h1_24 ..,h=>by
  obtain⟨_,a,h⟩:=qh h;replace h:=QD h;obtain⟨_,_,rfl,h⟩:=h;replace h:=qa h;rcases h with⟨rfl,h⟩|⟨rfl,h⟩
  · obtain⟨_,b,h⟩:=qh h;replace h:=qf h;rcases h with⟨_,rfl,h⟩|⟨_,rfl,h⟩
    · replace h:=t5 h;cases h;exact mF 1 [cA 7 (ev44 a),cA 12 (qqJ (ih _ _ (qpA b)))]
    · replace h:=t10 h;exact mA 1 (ih _ _ h) 9 [cA 7 (ev44 a),cF 12 (qqJ (ih _ _ (qpA b)))] 14 16370
  · cases h;exact mF 1 [cA 7 (ev44 a)]
 |.e_43 ..,h=>by
  obtain⟨_,a,h⟩:=qh h;replace h:=qf h;rcases h with⟨_,rfl,h⟩|⟨_,rfl,h⟩
  · replace h:=t5 h;cases h;exact mF 1 [cA 5 (qp7 (ih _ _ (qoZ a)))]
  · replace h:=qf h;rcases h with⟨_,rfl,h⟩|⟨_,rfl,h⟩
    · replace h:=t10 h;exact mA 1 (ih _ _ h) 7 [cA 5 (qp7 (ih _ _ (qoZ a)))] 14 16370
    · replace h:=t10 h;exact mA 1 (ih _ _ h) 7 [cA 5 (qp7 (ih _ _ (qoZ a)))] 14 16370
 |.h0_43 ..,h=>by
  obtain⟨_,a,h⟩:=qh h;replace h:=QD h;obtain⟨_,_,rfl,h⟩:=h;replace h:=qa h;rcases h with⟨rfl,h⟩|⟨rfl,h⟩
  · obtain⟨_,b,h⟩:=qh h;replace h:=qf h;rcases h with⟨_,rfl,h⟩|⟨_,rfl,h⟩
    · replace h:=t5 h;cases h;exact mF 1 [cA 7 (ev44 a),cA 12 (qqI (ih _ _ (qpz b)))]
    · replace h:=t10 h;exact mA 1 (ih _ _ h) 9 [cA 7 (ev44 a),cA 12 (qqI (ih _ _ (qpz b)))] 14 16370
  · cases h;exact mF 1 [cA 7 (ev44 a)]
 |.h1_43 ..,h=>by
  obtain⟨_,a,h⟩:=qh h;replace h:=QD h;obtain⟨_,_,rfl,h⟩:=h;replace h:=qa h;rcases h with⟨rfl,h⟩|⟨rfl,h⟩
  · obtain⟨_,b,h⟩:=qh h;replace h:=qf h;rcases h with⟨_,rfl,h⟩|⟨_,rfl,h⟩
    · replace h:=t5 h;cases h;exact mF 1 [cA 7 (ev44 a),cA 12 (qqI (ih _ _ (qpz b)))]
    · replace h:=t10 h;exact mA 1 (ih _ _ h) 9 [cA 7 (ev44 a),cF 12 (qqI (ih _ _ (qpz b)))] 14 16370
  · cases h;exact mF 1 [cA 7 (ev44 a)]
 |.e_67 ..,h=>by
  obtain⟨_,a,h⟩:=b2 h;rcases qa h with⟨b,h⟩|⟨b,h⟩
  · obtain⟨_,c,h⟩:=qh h;replace h:=qf h;rcases h with⟨_,rfl,h⟩|⟨_,rfl,h⟩
    · replace h:=t5 h;cases h;exact mF 1 [cA 6 (ev44 a),tT 7 b,cA 9 (qtq (ih _ _ (qqZ c)))]
    · replace h:=t10 h;cases h;exact mF 1 [cA 6 (ev44 a),tT 7 b,cA 9 (qtq (ih _ _ (qqZ c)))]
  ·
   obtain⟨_,c,h⟩:=qh h;replace h:=qf h;rcases h with⟨_,rfl,h⟩|⟨_,rfl,h⟩
   · replace h:=t5 h;cases h;exact mF 1 [cA 6 (ev44 a),tF 7 b,cA 11 (ev80 c)]
   ·
    replace h:=t4 h;obtain⟨_,d,h⟩:=qh h;replace h:=qf h;rcases h with⟨_,rfl,h⟩|⟨_,rfl,h⟩
    · replace h:=t5 h;cases h;exact mF 1 [cA 6 (ev44 a),tF 7 b,cA 11 (ev80 c),cA 13 (qp7 (ih _ _ (qoZ d)))]
    · replace h:=qf h;rcases h with⟨_,rfl,h⟩|⟨_,rfl,h⟩
      · replace h:=t10 h;cases h;exact mF 1 [cA 6 (ev44 a),tF 7 b,cA 11 (ev80 c),cA 13 (qp7 (ih _ _ (qoZ d)))]
      · replace h:=t10 h;cases h;exact mF 1 [cA 6 (ev44 a),tF 7 b,cA 11 (ev80 c),cA 13 (qp7 (ih _ _ (qoZ d)))]
 |.e_79 ..,h=>by
  obtain⟨_,a,h⟩:=qh h;replace h:=qf h;rcases h with⟨_,rfl,h⟩|⟨_,rfl,h⟩
  · replace h:=t5 h;cases h;exact mF 1 [cA 6 (qq8 (ih _ _ (qpr a)))]
  ·
   replace h:=t10 h;obtain⟨_,b,h⟩:=b2 h;rcases qa h with⟨c,h⟩|⟨c,h⟩
   · obtain⟨_,d,h⟩:=qh h;replace h:=qf h;rcases h with⟨_,rfl,h⟩|⟨_,rfl,h⟩
     · replace h:=t5 h;cases h;exact mF 1 [cA 6 (qq8 (ih _ _ (qpr a))),cA 8 (ev90 b),tT 10 c,cA 16 (qr8 (ih _ _ (qqr d)))]
     · replace h:=t10 h;cases h;exact mF 1 [cA 6 (qq8 (ih _ _ (qpr a))),cA 8 (ev90 b),tT 10 c,cA 16 (qr8 (ih _ _ (qqr d)))]
   · cases h;exact mF 1 [cA 6 (qq8 (ih _ _ (qpr a))),cA 8 (ev90 b),tF 10 c]
 |.e_89 ..,h=>by
  obtain⟨_,a,h⟩:=qh h;replace h:=qf h;rcases h with⟨_,rfl,h⟩|⟨_,rfl,h⟩
  · replace h:=t5 h;cases h;exact mF 1 [cA 6 (qrL (ih _ _ (qpR a)))]
  · replace h:=t10 h;exact mA 1 (ih _ _ h) 6 [cA 6 (qrL (ih _ _ (qpR a)))] 18 262130
 |.h0_89 ..,h=>by
  obtain⟨_,a,h⟩:=b2 h;rcases qa h with⟨b,h⟩|⟨b,h⟩
  · cases h;exact mF 1 [cA 8 (ev90 a),tT 10 b]
  · obtain⟨_,c,h⟩:=qh h;replace h:=qf h;rcases h with⟨_,rfl,h⟩|⟨_,rfl,h⟩
    · replace h:=t5 h;cases h;exact mF 1 [cA 8 (ev90 a),tF 10 b,cA 17 (qqH (ih _ _ (qpy c)))]
    · replace h:=t10 h;exact mA 1 (ih _ _ h) 11 [cA 8 (ev90 a),tF 10 b,cA 17 (qqH (ih _ _ (qpy c)))] 18 262130
 |.h1_89 ..,h=>by
  obtain⟨_,a,h⟩:=b2 h;rcases qa h with⟨b,h⟩|⟨b,h⟩
  · cases h;exact mF 1 [cA 8 (ev90 a),tT 10 b]
  · obtain⟨_,c,h⟩:=qh h;replace h:=qf h;rcases h with⟨_,rfl,h⟩|⟨_,rfl,h⟩
    · replace h:=t5 h;cases h;exact mF 1 [cA 8 (ev90 a),tF 10 b,cA 17 (qqH (ih _ _ (qpy c)))]
    · replace h:=t10 h;exact mA 1 (ih _ _ h) 11 [cA 8 (ev90 a),tF 10 b,cF 17 (qqH (ih _ _ (qpy c)))] 18 262130
 |.e_97 ..,h=>by
  obtain⟨_,a,h⟩:=qh h;replace h:=qf h;rcases h with⟨_,rfl,h⟩|⟨_,rfl,h⟩
  · replace h:=t5 h;cases h;exact mF 1 [cA 6 (qpx (ih _ _ (qoS a)))]
  · replace h:=qf h;rcases h with⟨_,rfl,h⟩|⟨_,rfl,h⟩
    · replace h:=t10 h;exact mA 1 (ih _ _ h) 6 [cA 6 (qpx (ih _ _ (qoS a)))] 18 262130
    · replace h:=t10 h;exact mA 1 (ih _ _ h) 6 [cA 6 (qpx (ih _ _ (qoS a)))] 18 262130
 |.h0_97 ..,h=>by
  obtain⟨_,a,h⟩:=b2 h;rcases qa h with⟨b,h⟩|⟨b,h⟩
  · cases h;exact mF 1 [cA 8 (ev90 a),tT 10 b]
  · obtain⟨_,c,h⟩:=qh h;replace h:=qf h;rcases h with⟨_,rfl,h⟩|⟨_,rfl,h⟩
    · replace h:=t5 h;cases h;exact mF 1 [cA 8 (ev90 a),tF 10 b,cA 17 (qcv (ih _ _ (xg c)))]
    · replace h:=t10 h;exact mA 1 (ih _ _ h) 11 [cA 8 (ev90 a),tF 10 b,cF 17 (qcv (ih _ _ (xg c)))] 18 262130
 |.h1_97 ..,h=>by
  obtain⟨_,a,h⟩:=b2 h;rcases qa h with⟨b,h⟩|⟨b,h⟩
  · cases h;exact mF 1 [cA 8 (ev90 a),tT 10 b]
  · obtain⟨_,c,h⟩:=qh h;replace h:=qf h;rcases h with⟨_,rfl,h⟩|⟨_,rfl,h⟩
    · replace h:=t5 h;cases h;exact mF 1 [cA 8 (ev90 a),tF 10 b,cA 17 (qcv (ih _ _ (xg c)))]
    · replace h:=t10 h;exact mA 1 (ih _ _ h) 11 [cA 8 (ev90 a),tF 10 b,cA 17 (qcv (ih _ _ (xg c)))] 18 262130
 |.e_104 ..,h=>by
  obtain⟨_,a,h⟩:=b2 h;rcases qa h with⟨b,h⟩|⟨b,h⟩
  ·
   obtain⟨_,c,h⟩:=qh h;replace h:=qf h;rcases h with⟨_,rfl,h⟩|⟨_,rfl,h⟩
   · replace h:=t5 h;cases h;exact mF 1 [cA 6 (ev44 a),tT 7 b,cA 9 (qrm (ih _ _ (qpW c)))]
   · replace h:=qf h;rcases h with⟨_,rfl,h⟩|⟨_,rfl,h⟩
     · replace h:=t10 h;exact mA 1 (ih _ _ h) 8 [cA 6 (ev44 a),tT 7 b,cA 9 (qrm (ih _ _ (qpW c)))] 25 33554427
     · replace h:=t10 h;exact mA 1 (ih _ _ h) 8 [cA 6 (ev44 a),tT 7 b,cA 9 (qrm (ih _ _ (qpW c)))] 25 33554427
  ·
   obtain⟨_,c,h⟩:=qh h;replace h:=qf h;rcases h with⟨_,rfl,h⟩|⟨_,rfl,h⟩
   · replace h:=t5 h;cases h;exact mF 1 [cA 6 (ev44 a),tF 7 b,cA 11 (ev80 c)]
   ·
    replace h:=t4 h;obtain⟨_,d,h⟩:=qh h;replace h:=qf h;rcases h with⟨_,rfl,h⟩|⟨_,rfl,h⟩
    · replace h:=t5 h;cases h;exact mF 1 [cA 6 (ev44 a),tF 7 b,cA 11 (ev80 c),cA 13 (qpx (ih _ _ (qoS d)))]
    · replace h:=qf h;rcases h with⟨_,rfl,h⟩|⟨_,rfl,h⟩
      · replace h:=t10 h;exact mG 1 (ih _ _ h) 15 [cA 6 (ev44 a),tF 7 b,cA 11 (ev80 c),cA 13 (qpx (ih _ _ (qoS d)))] 25 33554427 [4] []
      · replace h:=t10 h;exact mG 1 (ih _ _ h) 15 [cA 6 (ev44 a),tF 7 b,cA 11 (ev80 c),cA 13 (qpx (ih _ _ (qoS d)))] 25 33554427 [4] []
 |.h0_104 ..,h=>by cases h;exact mF 1 []
 |.h1_104 ..,h=>by cases h;exact mF 1 []
 |.h2_104 ..,h=>by cases h;exact mF 1 []
 |.e_112 ..,h=>by
  obtain⟨_,a,h⟩:=b6 h;rcases qa h with⟨b,h⟩|⟨b,h⟩
  · exact mG 1 (ih _ _ h) 15 [cA 8 (ev68 a),tT 12 b] 95 39614081257132168796771975163 [3] [(⟨⟨.loc 2,[]⟩,0,1⟩,none)]
  ·
   rcases qa h with⟨c,h⟩|⟨c,h⟩
   · exact mG 1 (ih _ _ h) 18 [cA 8 (ev68 a),tF 12 b,tT 26 c] 95 39614081257132168796771975163 [3] [(⟨⟨.loc 2,[]⟩,0,1⟩,none)]
   ·
    rcases qa h with⟨d,h⟩|⟨d,h⟩
    · exact mG 1 (ih _ _ h) 21 [cA 8 (ev68 a),tF 12 b,tF 26 c,tT 42 d] 95 39614081257132168796771975163 [3] [(⟨⟨.loc 2,[]⟩,0,1⟩,none)]
    ·
     rcases qa h with⟨e,h⟩|⟨e,h⟩
     · obtain⟨_,f,h⟩:=qh h;replace h:=qf h;rcases h with⟨_,rfl,h⟩|⟨_,rfl,h⟩
       · replace h:=t4 h;cases h;exact mF 1 [cA 8 (ev68 a),tF 12 b,tF 26 c,tF 42 d,tT 56 e,cA 59 (qrK f)]
       · replace h:=t4 h;exact mG 1 (ih _ _ h) 24 [cA 8 (ev68 a),tF 12 b,tF 26 c,tF 42 d,tT 56 e,cA 59 (qrK f)] 95 39614081257132168796771975163 [3] [(⟨⟨.loc 2,[]⟩,0,1⟩,none)]
     ·
      rcases qa h with⟨g,h⟩|⟨g,h⟩
      ·
       rcases qa h with⟨f,h⟩|⟨f,h⟩
       ·
        obtain⟨_,i,h⟩:=qh h;replace h:=qf h;rcases h with⟨_,rfl,h⟩|⟨_,rfl,h⟩
        · replace h:=t5 h;cases h;exact mF 1 [cA 8 (ev68 a),tF 12 b,tF 26 c,tF 42 d,tF 56 e,tT 68 g,tT 71 f,cA 73 (ev80 i)]
        · replace h:=t4 h;obtain⟨_,j,h⟩:=qh h;replace h:=qf h;rcases h with⟨_,rfl,h⟩|⟨_,rfl,h⟩
          · replace h:=t5 h;cases h;exact mF 1 [cA 8 (ev68 a),tF 12 b,tF 26 c,tF 42 d,tF 56 e,tT 68 g,tT 71 f,cA 73 (ev80 i),cA 75 (qnW (ih _ _ (qo6 j)))]
          · replace h:=t10 h;obtain⟨_,l,h⟩:=qh h;replace h:=qf h;rcases h with⟨_,rfl,h⟩|⟨_,rfl,h⟩
            · replace h:=t4 h;cases h;exact mF 1 [cA 8 (ev68 a),tF 12 b,tF 26 c,tF 42 d,tF 56 e,tT 68 g,tT 71 f,cA 73 (ev80 i),cA 75 (qnW (ih _ _ (qo6 j))),cA 77 (qo8 l)]
            · replace h:=t2 h;exact mG 1 (ih _ _ h) 36 [cA 8 (ev68 a),tF 12 b,tF 26 c,tF 42 d,tF 56 e,tT 68 g,tT 71 f,cA 73 (ev80 i),cA 75 (qnW (ih _ _ (qo6 j))),cA 77 (qo8 l)] 95 39614081257132168796771975163 [6,3] []
       · exact mA 1 (ih _ _ h) 28 [cA 8 (ev68 a),tF 12 b,tF 26 c,tF 42 d,tF 56 e,tT 68 g,tF 71 f] 95 39614081257132168796771975155
      · rcases qa h with⟨f,h⟩|⟨f,h⟩
        · obtain⟨_,i,h⟩:=qh h;replace h:=qf h;rcases h with⟨_,rfl,h⟩|⟨_,rfl,h⟩
          · replace h:=t5 h;cases h;exact mF 1 [cA 8 (ev68 a),tF 12 b,tF 26 c,tF 42 d,tF 56 e,tF 68 g,tT 87 f,cA 90 (qr7 (ih _ _ (qqo i)))]
          · replace h:=t10 h;exact mG 1 (ih _ _ h) 28 [cA 8 (ev68 a),tF 12 b,tF 26 c,tF 42 d,tF 56 e,tF 68 g,tT 87 f,cA 90 (qr7 (ih _ _ (qqo i)))] 95 39614081257132168796771975163 [3] []
        · exact mA 1 (ih _ _ h) 28 [cA 8 (ev68 a),tF 12 b,tF 26 c,tF 42 d,tF 56 e,tF 68 g,tF 87 f] 95 39614081257132168796771975155
 |.h0_112 ..,h=>by cases h;exact mF 1 []
 |.h1_112 ..,h=>by cases h;exact mF 1 []
 |.h2_112 ..,h=>by cases h;exact mF 1 []
 |.h3_112 ..,h=>by cases h;exact mF 1 []
 |.h4_112 ..,h=>by cases h;exact mF 1 []
 |.h5_112 ..,h=>by cases h;exact mF 1 []
 |.h6_112 ..,h=>by cases h;exact mF 1 []
 |.e_118 ..,h=>by
  rcases qa h with⟨a,h⟩|⟨a,h⟩
  · exact mA 1 (ih _ _ h) 11 [tT 11 a] 57 144115188075854310
  · exact mA 1 (ih _ _ h) 11 [tF 11 a] 57 144115188075854310
 |.h0_118 ..,h=>by
  replace h:=qa h;rcases h with⟨rfl,h⟩|⟨rfl,h⟩
  · rcases qa h with⟨a,h⟩|⟨a,h⟩
    · exact mA 1 (ih _ _ h) 10 [tT 22 a] 57 144115188075855815
    · exact mA 1 (ih _ _ h) 10 [tF 22 a] 57 144115188075855815
  · rcases qa h with⟨a,h⟩|⟨a,h⟩
    · exact mA 1 (ih _ _ h) 6 [tT 28 a] 57 144115187941638118
    · exact mA 1 (ih _ _ h) 6 [tF 28 a] 57 144115187941638118
 |.h1_118 ..,h=>by exact mG 1 (ih _ _ h) 2 [] 57 144115188075855855 [3] [(⟨⟨.loc 4,[]⟩,0,1⟩,some 7)]
 |.h2_118 ..,h=>by
  replace h:=qa h;rcases h with⟨rfl,h⟩|⟨rfl,h⟩
  ·
   obtain⟨_,a,h⟩:=qh h;replace h:=qf h;rcases h with⟨_,rfl,h⟩|⟨_,rfl,h⟩
   · replace h:=t5 h;cases h;exact mF 1 [cA 31 (ev80 a)]
   ·
    replace h:=t4 h;obtain⟨_,b,h⟩:=qh h;replace h:=qf h;rcases h with⟨_,rfl,h⟩|⟨_,rfl,h⟩
    · replace h:=t4 h;cases h;exact mF 1 [cA 31 (ev80 a),cA 33 (qo8 b)]
    ·
     replace h:=t2 h;obtain⟨_,c,h⟩:=qh h;replace h:=qf h;rcases h with⟨_,rfl,h⟩|⟨_,rfl,h⟩
     · replace h:=t5 h;cases h;exact mF 1 [cA 31 (ev80 a),cA 33 (qo8 b),cA 35 (qnW (ih _ _ (qo6 c)))]
     · replace h:=t10 h;obtain⟨_,d,h⟩:=qh h;replace h:=qf h;rcases h with⟨_,rfl,h⟩|⟨_,rfl,h⟩
       · replace h:=t4 h;cases h;exact mF 1 [cA 31 (ev80 a),cA 33 (qo8 b),cA 35 (qnW (ih _ _ (qo6 c))),cA 37 (qo8 d)]
       · replace h:=t2 h;rcases qa h with⟨e,h⟩|⟨e,h⟩
         · exact mG 1 (ih _ _ h) 20 [cA 31 (ev80 a),cA 33 (qo8 b),cA 35 (qnW (ih _ _ (qo6 c))),cA 37 (qo8 d),tT 47 e] 57 144115188075855855 [6,3] []
         · exact mG 1 (ih _ _ h) 20 [cA 31 (ev80 a),cA 33 (qo8 b),cA 35 (qnW (ih _ _ (qo6 c))),cA 37 (qo8 d),tF 47 e] 57 144115188075855855 [6,3] []
  · obtain⟨_,a,h⟩:=qh h;replace h:=qf h;rcases h with⟨_,rfl,h⟩|⟨_,rfl,h⟩
    · replace h:=t4 h;cases h;exact mF 1 [cA 56 (qtg a)]
    · replace h:=t8 h;exact mG 1 (ih _ _ h) 5 [cA 56 (qtg a)] 57 144115188075855855 [3] [(⟨⟨.loc 4,[]⟩,0,1⟩,some 7)]
 |.h3_118 ..,h=>by cases h;exact mF 1 []
 |.h4_118 ..,h=>by cases h;exact mF 1 []
 |.h5_118 ..,h=>by cases h;exact mF 1 []
 |.e_45 ..,h=>by
  obtain⟨_,a,h⟩:=b6 h;obtain⟨_,b,h⟩:=qh h;replace h:=qf h;rcases h with⟨_,rfl,h⟩|⟨_,rfl,h⟩
  · replace h:=t5 h;cases h;exact mF 1 [cA 11 (ev68 a),aP 3,cA 23 (qpx (ih _ _ (qoS b)))]
  · replace h:=qf h;rcases h with⟨_,rfl,h⟩|⟨_,rfl,h⟩
    · replace h:=t10 h;cases h;exact mF 1 [cA 11 (ev68 a),cA 23 (qpx (ih _ _ (qoS b)))]
    · replace h:=t10 h;cases h;exact mF 1 [cA 11 (ev68 a),cA 23 (qpx (ih _ _ (qoS b)))]
 |.e_45b ..,h=>by
  obtain⟨_,a,h⟩:=b6 h;obtain⟨_,b,h⟩:=qh h;replace h:=qf h;rcases h with⟨_,rfl,h⟩|⟨_,rfl,h⟩
  · replace h:=t5 h;cases h;exact mF 1 [cA 11 (ev68 a),aP 3,cA 23 (qrL (ih _ _ (qpR b)))]
  · replace h:=t10 h;cases h;exact mF 1 [cA 11 (ev68 a),cA 23 (qrL (ih _ _ (qpR b)))]
 |.e_45c ..,h=>by
  obtain⟨_,a,h⟩:=b6 h;obtain⟨_,b,h⟩:=qh h;replace h:=qf h;rcases h with⟨_,rfl,h⟩|⟨_,rfl,h⟩
  · replace h:=t5 h;cases h;exact mF 1 [cA 11 (ev68 a),aP 3,cA 23 (qq8 (ih _ _ (qpr b)))]
  · replace h:=t10 h;cases h;exact mF 1 [cA 11 (ev68 a),cA 23 (qq8 (ih _ _ (qpr b)))]
 |.e_45d ..,h=>by
  obtain⟨_,a,h⟩:=b6 h;obtain⟨_,b,h⟩:=qh h;replace h:=qf h;rcases h with⟨_,rfl,h⟩|⟨_,rfl,h⟩
  · replace h:=t5 h;cases h;exact mF 1 [cA 11 (ev68 a),aP 3,cA 23 (qp7 (ih _ _ (qoZ b)))]
  · replace h:=qf h;rcases h with⟨_,rfl,h⟩|⟨_,rfl,h⟩
    · replace h:=t10 h;cases h;exact mF 1 [cA 11 (ev68 a),cA 23 (qp7 (ih _ _ (qoZ b)))]
    · replace h:=t10 h;cases h;exact mF 1 [cA 11 (ev68 a),cA 23 (qp7 (ih _ _ (qoZ b)))]
 |.e_45e ..,h=>by
  obtain⟨_,a,h⟩:=b6 h;obtain⟨_,b,h⟩:=qh h;replace h:=qf h;rcases h with⟨_,rfl,h⟩|⟨_,rfl,h⟩
  · replace h:=t5 h;cases h;exact mF 1 [cA 11 (ev68 a),aP 3,cA 23 (qnm (ih _ _ (qpQ b)))]
  · replace h:=t10 h;cases h;exact mF 1 [cA 11 (ev68 a),cA 23 (qnm (ih _ _ (qpQ b)))]
theorem ev24 {k:Nat}{a:Rs}{b c:Int}{r:qoQ}(h:g24 k a b c=some r):E24 a b c r:=qnW (ok24 _ _ _ (qo6 h))
inductive S12 where
 |e (a:Rs)(b:Int)
 |h0 (a:Rs)(b:Int)(c:Bool)(d e f g i j:Int)(l m:By)(n:Int)
 |h1 (a b c d:Int)(e:Rs)(f g:Int)(i j:By)(l:Int)
 |h2 (a b c d:Int)(e:Rs)(f g:Int)(i j:By)(l:Int)
abbrev R12:=(Int×Int×Int×By×By×Int×Int×Int×Int)⊕(Int×Rs×Int×Int×By×By×Int×Int×Int×Int)
def qry:R12→ARes
 |(.inl (a,b,c,d,e,f,g,i,j))=>.ret ⟨.tup [true,false,false,false],[[ic a,.nil,ic b,ic c,sc d,sc e,ic f],[ic g],[ic i],[ic j]]⟩
 |(.inr (a,b,c,d,e,f,g,i,j,l))=>.ret ⟨.tup [true,false,false,false],[[ic a,.imm b,ic c,ic d,sc e,sc f,ic g],[ic i],[ic j],[ic l]]⟩
def bx12:R12→List (List Cell)
 |(.inl (_,_,_,_,_,_,_,_,_))=>[]
 |(.inr (_,_,_,_,_,_,_,_,_,_))=>[]
noncomputable def qmH (k:Nat)(rec:S12→Option R12):S12→Option R12
 |.e a b=>
  bif decide (b<0)then
   rec (.h0 a b true 0 0 0 0 0 0 (strB []) (strB []) 0)
  else
   rec (.h0 a b (decide (b≥(a.length:Int))) 0 0 0 0 0 0 (strB []) (strB []) 0)
 |.h0 a b c ..=>
  bif c then
   rec (.h1 1 0 0 0 [] 0 0 (strB []) (strB []) 0)
  else
   (g24 k a b 0).bind fun d=>
   altC d (fun e=>
     tup5 e fun f g _ i _=>
     some (.inl (0,0,0,strB [],strB [],0,0,f,g))) (fun e=>
     ql e fun j l m n o p q _ i _=>
     rec (.h2 0 0 i j l m n o p q))
 |.h1 a b c d e f g i j l=>some (.inr (d,e,f,g,i,j,l,c,b,a))
 |.h2 a b c d e f g i j l=>some (.inr (d,e,f,g,i,j,l,c,b,a))
noncomputable def g12 (k:Nat)(a:Rs)(b:Int):Option R12:=itS qmH k (.e a b)
noncomputable def P12:S12→R12→Prop
 |.e a b,r=>FinD cx12 Tryz.f12 (DOf cx12.P none 0) [.code qpI] (fr0 Tryz.f12 [.c (.imm a),.c (ic b)] []) (qry r) (bx12 r)
 |.h0 a b c d e f g i j l m n,r=>FinD cx12 Tryz.f12 (DOf cx12.P none 0) (kAt qpI [1,0,1,2] []) ⟨[.c (.imm a),.c (ic b),.deadv,.deadv,pL 4,pL 5,pL 6,pL 7]++rep 8 .deadv++[.c (bc c)]++rep 13 .deadv,[(.loc 7,[ic d]),(.loc 6,[ic e]),(.loc 5,[ic f]),(.loc 4,[ic g,.nil,ic i,ic j,sc l,sc m,ic n])]⟩ (qry r) (bx12 r)
 |.h1 a b c d e f g i j l,r=>FinD cx12 Tryz.f12 (DOf cx12.P none 0) (kAt qpI [1,0,1,0,1,2] []) ⟨rep 4 .deadv++[pL 4,pL 5,pL 6,pL 7]++rep 22 .deadv,[(.loc 7,[ic a]),(.loc 6,[ic b]),(.loc 5,[ic c]),(.loc 4,[ic d,.imm e,ic f,ic g,sc i,sc j,ic l])]⟩ (qry r) (bx12 r)
 |.h2 a b c d e f g i j l,r=>FinD cx12 Tryz.f12 (DOf cx12.P (some 18) 23) (kAt qpI [1,1,1,1,1,1,2] []) ⟨rep 4 .deadv++[pL 4,pL 5,pL 6,pL 7]++rep 10 .deadv++[.c (.clo 23 [] [.ptr ⟨⟨.loc 4,[]⟩,0,0⟩,.ptr ⟨⟨.loc 5,[]⟩,0,0⟩,.ptr ⟨⟨.loc 6,[]⟩,0,0⟩,.ptr ⟨⟨.loc 7,[]⟩,0,0⟩])]++rep 11 .deadv,[(.loc 7,[ic a]),(.loc 6,[ic b]),(.loc 5,[ic c]),(.loc 4,[ic d,.imm e,ic f,ic g,sc i,sc j,ic l])]⟩ (qry r) (bx12 r)
abbrev E12 (a:Rs)(b:Int)(r:R12):Prop:=Ev Tryz.prog noHand 12 [.c (.imm a),.c (ic b)] [] (qry r) (bx12 r)
theorem que {a:Rs}{b:Int}{r:R12}(h:P12 (.e a b) r):E12 a b r:=evD h
theorem qtj {b0_0:Int}{b0_2:Int}{b0_3:Int}{b0_4:ByteArray}{b0_5:ByteArray}{b0_6:Int}{b1_0:Int}{b2_0:Int}{b3_0:Int}{pv_i00:Int}{pv_i01:Int}:EvD Tryz.prog (.panicking [{ v:=.iface 65 (.agg #[.int .i64 pv_i00,.int .i64 pv_i01]),recovered:=false }]) (.panicking [{ v:=.iface 65 (.agg #[.int .i64 pv_i00,.int .i64 pv_i01]),recovered:=true }]) 23 [pP 0,pP 1,pP 2,pP 3] [[ic b0_0,.nil,ic b0_2,ic b0_3,sc b0_4,sc b0_5,ic b0_6],[ic b1_0],[ic b2_0],[ic b3_0]] (.ret .undef) [[ic 0,.nil,ic 0,ic 0,sc (strB []),sc (strB []),ic 0],[ic 0],[ic pv_i00],[ic pv_i01]]:=qcj (fn:=Tryz.f23) (body:=qe7) (cx:=cx23) (nb:=4) (n:=2000) (val:=.iface 65 (.agg #[.int .i64 pv_i00,.int .i64 pv_i01])) (ad1:=[]) (ad2:=[]) (ps:=[]) (by kernel_rfl) (by kernel_rfl) rfl hmix rfl (.inl ⟨rfl,rfl⟩) (by kernel_rfl) trivial
theorem qtk {b0_0:Int}{b0_1:Rs}{b0_2:Int}{b0_3:Int}{b0_4:ByteArray}{b0_5:ByteArray}{b0_6:Int}{b1_0:Int}{b2_0:Int}{b3_0:Int}:EvD Tryz.prog .returning .returning 23 [pP 0,pP 1,pP 2,pP 3] [[ic b0_0,.imm b0_1,ic b0_2,ic b0_3,sc b0_4,sc b0_5,ic b0_6],[ic b1_0],[ic b2_0],[ic b3_0]] (.ret .undef) [[ic b0_0,.imm b0_1,ic b0_2,ic b0_3,sc b0_4,sc b0_5,ic b0_6],[ic b1_0],[ic b2_0],[ic b3_0]]:=qcj (fn:=Tryz.f23) (body:=qe7) (cx:=cx23) (nb:=4) (n:=2000) (val:=.nilIface) (ad1:=[]) (ad2:=[]) (ps:=[]) (by kernel_rfl) (by kernel_rfl) rfl hmix rfl (.inr ⟨rfl,rfl,rfl⟩) (by kernel_rfl) trivial
theorem ok12:∀ k s r,itS qmH k s=some r→P12 s r:=qF fun k rec ih s r h=>match s,h with
 |.e ..,h=>by
  rcases qa h with⟨a,h⟩|⟨a,h⟩
  · exact Ya (t:=none) (f:=0) hmix (ih _ _ h) (n:=5) (ad:=[(some 10,.test true)]) (ps:=[_]) (m:=bm 30 1073676044) (ls:=[]) (cs:=[]) (by kernel_rfl) ⟨a,trivial⟩
  · exact Ya (t:=none) (f:=0) hmix (ih _ _ h) (n:=5) (ad:=[(some 10,.test false)]) (ps:=[_]) (m:=bm 30 1073676044) (ls:=[]) (cs:=[]) (by kernel_rfl) ⟨a,trivial⟩
 |.h0 a b _ c d e g i j l o p,h=>by
  replace h:=qa h;rcases h with⟨rfl,h⟩|⟨rfl,h⟩
  · exact Ya (t:=none) (f:=0) hmix (ih _ _ h) (n:=3) (ad:=[]) (ps:=[]) (m:=bm 30 1073741583) (ls:=[]) (cs:=[(⟨⟨.loc 4,[]⟩,0,1⟩,none)]) (by kernel_rfl) trivial
  · obtain⟨_,q,h⟩:=qh h;replace h:=qf h;rcases h with⟨_,rfl,h⟩|⟨_,rfl,h⟩
    · replace h:=qk6 h;obtain⟨u,v,w,x,y,rfl,h⟩:=h;rw[← aR h];exact Ya (t:=none) (f:=0) hmix (qg9 (Q:=fun G0 w0=>bodyPostD cx12.P Tryz.f12 (Went G0 w0 _ _)) (K0:=(kAt qpI [1,1,0,2] [])) (F:=⟨[.c (.imm a),.c (ic b),.deadv,.deadv,pL 4,pL 5,pL 6,pL 7]++rep 8 .deadv++[.c (bc false)]++rep 13 .deadv,[(.loc 7,[ic c]),(.loc 6,[ic d]),(.loc 5,[ic e]),(.loc 4,[ic g,.nil,ic i,ic j,sc l,sc o,ic p])]⟩) (k:=18) (f:=23) (K1:=(kAt qpI [1,1,0,3] [])) (F1:=⟨[.c (.imm a),.c (ic b),.deadv,.deadv,pL 4,pL 5,pL 6,pL 7]++rep 8 .deadv++[.c (bc false),.deadv,.c (.clo 23 [] [.ptr ⟨⟨.loc 4,[]⟩,0,0⟩,.ptr ⟨⟨.loc 5,[]⟩,0,0⟩,.ptr ⟨⟨.loc 6,[]⟩,0,0⟩,.ptr ⟨⟨.loc 7,[]⟩,0,0⟩])]++rep 11 .deadv,[(.loc 7,[ic c]),(.loc 6,[ic d]),(.loc 5,[ic e]),(.loc 4,[ic g,.nil,ic i,ic j,sc l,sc o,ic p])]⟩) (ad:=[]) (ps:=[]) ⟨Tryz.f23,by kernel_rfl,by kernel_rfl,by kernel_rfl⟩ (Yz (nb:=0) (t:=some 18) (f:=23) hmix (n:=2000) (ad:=[(some 24,.call (.panic (.iface 65 (.agg #[.int .i64 u,.int .i64 v]))) [[.imm w,ic x,ic y]] false)]) (ps:=[_,_]) (bx':=[[ic 0,.nil,ic 0,ic 0,sc (strB []),sc (strB []),ic 0],[ic 0],[ic u],[ic v]]) (by kernel_rfl) ⟨(ev24 q),(qtj (b0_0:=g) (b0_2:=i) (b0_3:=j) (b0_4:=l) (b0_5:=o) (b0_6:=p) (b1_0:=e) (b2_0:=d) (b3_0:=c) (pv_i00:=u) (pv_i01:=v)),trivial⟩) (by kernel_rfl) trivial) (n:=3) (ad:=[]) (ps:=[]) (m:=bm 30 0) (ls:=[]) (cs:=[]) (by kernel_rfl) trivial
    · replace h:=qjf h;obtain⟨z,a1,b1,c1,d1,e1,f1,w,x,y,rfl,h⟩:=h;exact Ya (t:=none) (f:=0) hmix (qg9 (Q:=fun G0 w0=>bodyPostD cx12.P Tryz.f12 (Went G0 w0 _ _)) (K0:=(kAt qpI [1,1,0,2] [])) (F:=⟨[.c (.imm a),.c (ic b),.deadv,.deadv,pL 4,pL 5,pL 6,pL 7]++rep 8 .deadv++[.c (bc false)]++rep 13 .deadv,[(.loc 7,[ic c]),(.loc 6,[ic d]),(.loc 5,[ic e]),(.loc 4,[ic g,.nil,ic i,ic j,sc l,sc o,ic p])]⟩) (k:=18) (f:=23) (K1:=(kAt qpI [1,1,0,3] [])) (F1:=⟨[.c (.imm a),.c (ic b),.deadv,.deadv,pL 4,pL 5,pL 6,pL 7]++rep 8 .deadv++[.c (bc false),.deadv,.c (.clo 23 [] [.ptr ⟨⟨.loc 4,[]⟩,0,0⟩,.ptr ⟨⟨.loc 5,[]⟩,0,0⟩,.ptr ⟨⟨.loc 6,[]⟩,0,0⟩,.ptr ⟨⟨.loc 7,[]⟩,0,0⟩])]++rep 11 .deadv,[(.loc 7,[ic c]),(.loc 6,[ic d]),(.loc 5,[ic e]),(.loc 4,[ic g,.nil,ic i,ic j,sc l,sc o,ic p])]⟩) (ad:=[]) (ps:=[]) ⟨Tryz.f23,by kernel_rfl,by kernel_rfl,by kernel_rfl⟩ (Ya (t:=some 18) (f:=23) hmix (ih _ _ h) (n:=6) (ad:=[(some 24,.call (.ret (.ag [ic z,.imm a1,ic b1,ic c1,sc d1,sc e1,ic f1])) [[.imm w,ic x,ic y]] false)]) (ps:=[_]) (m:=bm 30 1073479439) (ls:=[22]) (cs:=[]) (by kernel_rfl) ⟨(ev24 q),trivial⟩) (by kernel_rfl) trivial) (n:=3) (ad:=[]) (ps:=[]) (m:=bm 30 0) (ls:=[]) (cs:=[]) (by kernel_rfl) trivial
 |.h1 ..,h=>by rw[← aR h];exact Yz (nb:=0) (t:=none) (f:=0) hmix (n:=2000) (ad:=[]) (ps:=[]) (bx':=[]) (by kernel_rfl) trivial
 |.h2 a b c d e g i j l m,h=>by rw[← aR h];exact Yz (nb:=0) (t:=some 18) (f:=23) hmix (n:=2000) (ad:=[]) (ps:=[_]) (bx':=[[ic d,.imm e,ic g,ic i,sc j,sc l,ic m],[ic c],[ic b],[ic a]]) (by kernel_rfl) ⟨(qtk (b0_0:=d) (b0_1:=e) (b0_2:=g) (b0_3:=i) (b0_4:=j) (b0_5:=l) (b0_6:=m) (b1_0:=c) (b2_0:=b) (b3_0:=a)),trivial⟩
theorem ev12 {k:Nat}{a:Rs}{b:Int}{r:R12}(h:g12 k a b=some r):E12 a b r:=que (ok12 _ _ _ h)
inductive S17 where
 |e (a:Int)(b:Rs)(c d:Int)(e f:By)(g:Int)
 |h0 (a:Int)(b:Rs)(c d:Int)
abbrev R17:=Int
def qjK:R17→ARes
 |r=>.ret (.c (ic r))
def bx17:R17→List (List Cell)
 |_=>[]
noncomputable def qjR (k:Nat)(rec:S17→Option R17):S17→Option R17
 |.e _ a ..=>rec (.h0 1 a (a.length:Int) 0)
 |.h0 a b c d=>
  bif decide (d<c)then
   ixR b d fun e=>
   qE e fun f g i j l m n=>
   (rec (.e f g i j l m n)).bind fun o=>
   rec (.h0 (IntKind.i64.wrap (a+o)) b c (IntKind.i64.wrap (d+1)))
  else
   some a
noncomputable def g17 (k:Nat)(a:Int)(b:Rs)(c d:Int)(e f:By)(g:Int):Option R17:=itS qjR k (.e a b c d e f g)
noncomputable def P17:S17→R17→Prop
 |.e a b c d e f g,r=>Fin cx17 Tryz.f17 [.code qiu] (fr0 Tryz.f17 [.ag [ic a,.imm b,ic c,ic d,sc e,sc f,ic g]] []) (qjK r) (bx17 r)
 |.h0 a b c d,r=>Fin cx17 Tryz.f17 (kAt qiu [1,1,0,1,0,4] []) ⟨rep 3 .deadv++[.c (ic a)]++rep 3 .deadv++[.c (.imm b),.c (ic c),.c (ic d)]++rep 9 .deadv,[]⟩ (qjK r) (bx17 r)
abbrev E17 (a:Int)(b:Rs)(c d:Int)(e f:By)(g:Int)(r:R17):Prop:=Ev Tryz.prog noHand 17 [.ag [ic a,.imm b,ic c,ic d,sc e,sc f,ic g]] [] (qjK r) (bx17 r)
theorem qll {a:Int}{b:Rs}{c d:Int}{e f:By}{g:Int}{r:R17}(h:P17 (.e a b c d e f g) r):E17 a b c d e f g r:=evF h
theorem ok17:∀ k s r,itS qjR k s=some r→P17 s r:=qF fun k rec ih s r h=>match s,h with
 |.e ..,h=>by exact mG 0 (ih _ _ h) 9 [] 19 523383 [1] []
 |.h0 ..,h=>by
  rcases qa h with⟨a,h⟩|⟨a,h⟩
  · obtain⟨_,b,h⟩:=YJ h;replace h:=zB h;obtain⟨_,_,_,_,_,_,_,rfl,h⟩:=h;obtain⟨_,c,h⟩:=qh h;exact mG 0 (ih _ _ h) 13 [tT 10 a,rA 11 b,cA 15 (qll (ih _ _ c))] 19 523383 [5] []
  · cases h;exact mF 0 [tF 10 a]
theorem ev17 {k:Nat}{a:Int}{b:Rs}{c d:Int}{e f:By}{g:Int}{r:R17}(h:g17 k a b c d e f g=some r):E17 a b c d e f g r:=qll (ok17 _ _ _ h)
end Ab
end Go.Proofs.YtfekohpjaafnhaaGreatDoor
