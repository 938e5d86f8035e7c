/-
  Functions' ways, printed by a program: what each computes, and that this is what the interpreter computes.
-/
import Derived.Test.YtfekohpjaafnhaaDoorFEq
import Derived.KernelRfl
set_option linter.all false
set_option maxRecDepth 10000
namespace Go.Proofs.YtfekohpjaafnhaaDoor
namespace Ab
variable [vo]
inductive S22 where
 |e_22 (a:Rs)(b c:Int)
 |h0_22 (a:Int)(b:Rs)(c d:Int)(e f:By)(g i j l:Int)(m n:By)(o:Int)(p:Rs)(q t:Int)
 |h1_22 (a:Int)(b:Rs)(c d:Int)(e f:By)(g i j l:Int)(m n:By)(o:Int)(p:Rs)(q t:Int)
 |e_36 (a:Rs)(b c:Int)
 |h0_36 (a:Int)(b:Rs)(c d:Int)(e f:By)(g i j l:Int)(m n:By)(o:Int)(p:Rs)(q t:Int)
 |h1_36 (a:Int)(b:Rs)(c d:Int)(e f:By)(g i j l:Int)(m n:By)(o:Int)(p:Rs)(q t:Int)
 |e_45 (a:Rs)(b c:Int)
 |e_51 (a:Rs)(b c:Int)
 |e_59 (a:Rs)(b c:Int)
 |h0_59 (a:Int)(b:Rs)(c d:Int)(e f:By)(g i j l:Int)(m n:By)(o:Int)(p:Rs)(q t:Int)
 |h1_59 (a:Int)(b:Rs)(c d:Int)(e f:By)(g i j l:Int)(m n:By)(o:Int)(p:Rs)(q t:Int)
 |e_70 (a:Rs)(b c:Int)
 |h0_70 (a:Int)(b:Rs)(c d:Int)(e f:By)(g i j l:Int)(m n:By)(o:Int)(p:Rs)(q t:Int)
 |h1_70 (a:Int)(b:Rs)(c d:Int)(e f:By)(g i j l:Int)(m n:By)(o:Int)(p:Rs)(q t:Int)
 |e_78 (a:Rs)(b c:Int)
 |h0_78 (a:Int)(b:Rs)(c d:Int)(e f:By)(g:Int)(i:Rs)(j l:Int)
 |h1_78 (a:Int)(b:Rs)(c d:Int)(e f:By)(g:Int)(i:Rs)(j l:Int)
 |h2_78 (a:Int)(b:Rs)(c d:Int)(e f:By)(g:Int)(i:Rs)(j l:Int)
 |e_83 (a:Rs)(b c:Int)
 |h0_83 (a:Int)(b:Rs)(c d:Int)(e f:By)(g:Int)(i:Rs)(j l:Int)
 |h1_83 (a:Int)(b:Rs)(c d:Int)(e f:By)(g:Int)(i:Rs)(j l:Int)
 |h2_83 (a:Int)(b:Rs)(c d:Int)(e f:By)(g:Int)(i:Rs)(j l:Int)
 |h3_83 (a:Int)(b:Rs)(c d:Int)(e f:By)(g:Int)(i:Rs)(j l:Int)
 |h4_83 (a:Int)(b:Rs)(c d:Int)(e f:By)(g:Int)(i:Rs)(j l:Int)
 |h5_83 (a:Int)(b:By)(c d e f g i:Int)(j l:By)(m:Int)(n:Rs)(o p:Int)
 |h6_83 (a:Int)(b:Rs)(c d:Int)(e f:By)(g:Int)(i:Rs)(j l:Int)
 |e_87 (a:Int)(b:By)(c d e:Int)(f:Rs)(g i:Int)
 |h0_87 (a:By)(b:Bool)(c d e:Int)(f g:By)(i j:Int)(l:By)(m n o:Int)(p:Rs)(q t:Int)
 |h1_87 (a b c d:Int)(e f:By)(g i:Int)(j:By)(l m n:Int)(o:Rs)(p q:Int)
 |h2_87 (a:Bool)(b c d:Int)(e f:By)(g i:Int)(j:By)(l m n:Int)(o:Rs)(p q:Int)
 |h3_87 (a:Int)(b:Rs)(c d:Int)(e f:By)(g:Int)(i:Rs)(j l:Int)
 |h4_87 (a:Int)(b:Rs)(c d:Int)(e f:By)(g:Int)(i:Rs)(j l:Int)
 |h5_87 (a:Int)(b:Rs)(c d:Int)(e f:By)(g:Int)(i:Rs)(j l:Int)
 |e_38 (a b:Int)(c:Rs)(d e:Int)(f g:By)(i:Int)(j:Rs)(l m:Int)
 |e_38b (a b:Int)(c:Rs)(d e:Int)(f g:By)(i:Int)(j:Rs)(l m:Int)
 |e_38c (a b:Int)(c:Rs)(d e:Int)(f g:By)(i:Int)(j:Rs)(l m:Int)
 |e_38d (a b:Int)(c:Rs)(d e:Int)(f g:By)(i:Int)(j:Rs)(l m:Int)
 |e_38e (a b:Int)(c:Rs)(d e:Int)(f g:By)(i:Int)(j:Rs)(l m:Int)
abbrev zY:=(Int×Int×Rs×Int×Int)⊕(Int×Rs×Int×Int×By×By×Int×Rs×Int×Int)
abbrev qab:=zY
abbrev Zq:=(Int×Int×Rs×Int×Int)⊕(Int×Rs×Int×Int×By×By×Int×Rs×Int×Int)⊕(Int×Rs×Int×Int×By×By×Int×Rs×Int×Int)
abbrev QP:=zY
abbrev qan:=zY
abbrev qaa:=zY
abbrev QJ:=Zq
abbrev QG:=Zq
abbrev qal:=zY
abbrev QL:=zY
abbrev ZM:=zY
abbrev ZG:=zY
abbrev Yf:=zY
abbrev Yl:=zY
abbrev R22:=zY⊕qab⊕Zq⊕QP⊕qan⊕qaa⊕QJ⊕QG⊕qal⊕QL⊕ZM⊕ZG⊕Yf⊕Yl
def qat (o:Option R22):Option zY:=o.bind fun|(.inl x)=>some x|_=>none
theorem xO {o:Option R22}{v:zY}(h:qat o=some v):o=some (.inl v):=by
 cases o with
 |none=>cases h
 |some r=>
  unfold qat at h;simp only[ae]at h;split at h
  · injection h with h;rw[h]
  · cases h
def qdj (o:Option R22):Option qab:=o.bind fun|(.inr (.inl x))=>some x|_=>none
theorem qaG {o:Option R22}{v:qab}(h:qdj o=some v):o=some (.inr (.inl v)):=by
 cases o with
 |none=>cases h
 |some r=>
  unfold qdj at h;simp only[ae]at h;split at h
  · injection h with h;rw[h]
  · cases h
def Yk (o:Option R22):Option Zq:=o.bind fun|(.inr (.inr (.inl x)))=>some x|_=>none
theorem xg {o:Option R22}{v:Zq}(h:Yk o=some v):o=some (.inr (.inr (.inl v))):=by
 cases o with
 |none=>cases h
 |some r=>
  unfold Yk at h;simp only[ae]at h;split at h
  · injection h with h;rw[h]
  · cases h
def qcr (o:Option R22):Option QP:=o.bind fun|(.inr (.inr (.inr (.inl x))))=>some x|_=>none
theorem qe3 {o:Option R22}{v:QP}(h:qcr o=some v):o=some (.inr (.inr (.inr (.inl v)))):=by
 cases o with
 |none=>cases h
 |some r=>
  unfold qcr at h;simp only[ae]at h;split at h
  · injection h with h;rw[h]
  · cases h
def qbH (o:Option R22):Option qan:=o.bind fun|(.inr (.inr (.inr (.inr (.inl x)))))=>some x|_=>none
theorem YB {o:Option R22}{v:qan}(h:qbH o=some v):o=some (.inr (.inr (.inr (.inr (.inl v))))):=by
 cases o with
 |none=>cases h
 |some r=>
  unfold qbH at h;simp only[ae]at h;split at h
  · injection h with h;rw[h]
  · cases h
def qdT (o:Option R22):Option qaa:=o.bind fun|(.inr (.inr (.inr (.inr (.inr (.inl x))))))=>some x|_=>none
theorem qaE {o:Option R22}{v:qaa}(h:qdT o=some v):o=some (.inr (.inr (.inr (.inr (.inr (.inl v)))))):=by
 cases o with
 |none=>cases h
 |some r=>
  unfold qdT at h;simp only[ae]at h;split at h
  · injection h with h;rw[h]
  · cases h
def ZC (o:Option R22):Option QJ:=o.bind fun|(.inr (.inr (.inr (.inr (.inr (.inr (.inl x)))))))=>some x|_=>none
theorem xq {o:Option R22}{v:QJ}(h:ZC o=some v):o=some (.inr (.inr (.inr (.inr (.inr (.inr (.inl v))))))):=by
 cases o with
 |none=>cases h
 |some r=>
  unfold ZC at h;simp only[ae]at h;split at h
  · injection h with h;rw[h]
  · cases h
def qbF (o:Option R22):Option QG:=o.bind fun|(.inr (.inr (.inr (.inr (.inr (.inr (.inr (.inl x))))))))=>some x|_=>none
theorem qcm {o:Option R22}{v:QG}(h:qbF o=some v):o=some (.inr (.inr (.inr (.inr (.inr (.inr (.inr (.inl v)))))))):=by
 cases o with
 |none=>cases h
 |some r=>
  unfold qbF at h;simp only[ae]at h;split at h
  · injection h with h;rw[h]
  · cases h
def qhQ (o:Option R22):Option qal:=o.bind fun|(.inr (.inr (.inr (.inr (.inr (.inr (.inr (.inr (.inl x)))))))))=>some x|_=>none
theorem qfN {o:Option R22}{v:qal}(h:qhQ o=some v):o=some (.inr (.inr (.inr (.inr (.inr (.inr (.inr (.inr (.inl v))))))))):=by
 cases o with
 |none=>cases h
 |some r=>
  unfold qhQ at h;simp only[ae]at h;split at h
  · injection h with h;rw[h]
  · cases h
def qdm (o:Option R22):Option QL:=o.bind fun|(.inr (.inr (.inr (.inr (.inr (.inr (.inr (.inr (.inr (.inl x))))))))))=>some x|_=>none
theorem qaD {o:Option R22}{v:QL}(h:qdm o=some v):o=some (.inr (.inr (.inr (.inr (.inr (.inr (.inr (.inr (.inr (.inl v)))))))))):=by
 cases o with
 |none=>cases h
 |some r=>
  unfold qdm at h;simp only[ae]at h;split at h
  · injection h with h;rw[h]
  · cases h
def QW (o:Option R22):Option ZM:=o.bind fun|(.inr (.inr (.inr (.inr (.inr (.inr (.inr (.inr (.inr (.inr (.inl x)))))))))))=>some x|_=>none
theorem XF {o:Option R22}{v:ZM}(h:QW o=some v):o=some (.inr (.inr (.inr (.inr (.inr (.inr (.inr (.inr (.inr (.inr (.inl v))))))))))):=by
 cases o with
 |none=>cases h
 |some r=>
  unfold QW at h;simp only[ae]at h;split at h
  · injection h with h;rw[h]
  · cases h
def qde (o:Option R22):Option ZG:=o.bind fun|(.inr (.inr (.inr (.inr (.inr (.inr (.inr (.inr (.inr (.inr (.inr (.inl x))))))))))))=>some x|_=>none
theorem qd0 {o:Option R22}{v:ZG}(h:qde o=some v):o=some (.inr (.inr (.inr (.inr (.inr (.inr (.inr (.inr (.inr (.inr (.inr (.inl v)))))))))))):=by
 cases o with
 |none=>cases h
 |some r=>
  unfold qde at h;simp only[ae]at h;split at h
  · injection h with h;rw[h]
  · cases h
def QX (o:Option R22):Option Yf:=o.bind fun|(.inr (.inr (.inr (.inr (.inr (.inr (.inr (.inr (.inr (.inr (.inr (.inr (.inl x)))))))))))))=>some x|_=>none
theorem XG {o:Option R22}{v:Yf}(h:QX o=some v):o=some (.inr (.inr (.inr (.inr (.inr (.inr (.inr (.inr (.inr (.inr (.inr (.inr (.inl v))))))))))))):=by
 cases o with
 |none=>cases h
 |some r=>
  unfold QX at h;simp only[ae]at h;split at h
  · injection h with h;rw[h]
  · cases h
def QY (o:Option R22):Option Yl:=o.bind fun|(.inr (.inr (.inr (.inr (.inr (.inr (.inr (.inr (.inr (.inr (.inr (.inr (.inr x)))))))))))))=>some x|_=>none
theorem XJ {o:Option R22}{v:Yl}(h:QY o=some v):o=some (.inr (.inr (.inr (.inr (.inr (.inr (.inr (.inr (.inr (.inr (.inr (.inr (.inr v))))))))))))):=by
 cases o with
 |none=>cases h
 |some r=>
  unfold QY at h;simp only[ae]at h;split at h
  · injection h with h;rw[h]
  · cases h
def qmv:zY→ARes
 |(.inl (a,b,_,_,_))=>.panic (.iface 58 (.agg #[.int .i64 a,.int .i64 b]))
 |(.inr (a,b,c,d,e,f,g,_,_,_))=>.ret (.ag [ic a,.imm b,ic c,ic d,sc e,sc f,ic g])
def bx22:zY→List (List Cell)
 |(.inl (_,_,a,b,c))=>[[.imm a,ic b,ic c]]
 |(.inr (_,_,_,_,_,_,_,a,b,c))=>[[.imm a,ic b,ic c]]
def rs22:R22→ARes
 |(.inl x)=>qmv x
 |_=>.panic .nilIface
def bs22:R22→List (List Cell)
 |(.inl x)=>bx22 x
 |_=>[]
def qlO:qab→ARes
 |(.inl (a,b,_,_,_))=>.panic (.iface 58 (.agg #[.int .i64 a,.int .i64 b]))
 |(.inr (a,b,c,d,e,f,g,_,_,_))=>.ret (.ag [ic a,.imm b,ic c,ic d,sc e,sc f,ic g])
def bx36:qab→List (List Cell)
 |(.inl (_,_,a,b,c))=>[[.imm a,ic b,ic c]]
 |(.inr (_,_,_,_,_,_,_,a,b,c))=>[[.imm a,ic b,ic c]]
def rs36:R22→ARes
 |(.inr (.inl x))=>qlO x
 |_=>.panic .nilIface
def bs36:R22→List (List Cell)
 |(.inr (.inl x))=>bx36 x
 |_=>[]
def qly:Zq→ARes
 |(.inl (a,b,_,_,_))=>.panic (.iface 58 (.agg #[.int .i64 a,.int .i64 b]))
 |(.inr (.inl (a,b,c,d,e,f,g,_,_,_)))=>.ret (.ag [ic a,.imm b,ic c,ic d,sc e,sc f,ic g])
 |(.inr (.inr (a,b,c,d,e,f,g,_,_,_)))=>.ret (.ag [ic a,.own 7 b,ic c,ic d,sc e,sc f,ic g])
def bx45:Zq→List (List Cell)
 |(.inl (_,_,a,b,c))=>[[.imm a,ic b,ic c]]
 |(.inr (.inl (_,_,_,_,_,_,_,a,b,c)))=>[[.imm a,ic b,ic c]]
 |(.inr (.inr (_,_,_,_,_,_,_,a,b,c)))=>[[.imm a,ic b,ic c]]
def rs45:R22→ARes
 |(.inr (.inr (.inl x)))=>qly x
 |_=>.panic .nilIface
def bs45:R22→List (List Cell)
 |(.inr (.inr (.inl x)))=>bx45 x
 |_=>[]
def qmz:QP→ARes
 |(.inl (a,b,_,_,_))=>.panic (.iface 58 (.agg #[.int .i64 a,.int .i64 b]))
 |(.inr (a,b,c,d,e,f,g,_,_,_))=>.ret (.ag [ic a,.imm b,ic c,ic d,sc e,sc f,ic g])
def bx51:QP→List (List Cell)
 |(.inl (_,_,a,b,c))=>[[.imm a,ic b,ic c]]
 |(.inr (_,_,_,_,_,_,_,a,b,c))=>[[.imm a,ic b,ic c]]
def rs51:R22→ARes
 |(.inr (.inr (.inr (.inl x))))=>qmz x
 |_=>.panic .nilIface
def bs51:R22→List (List Cell)
 |(.inr (.inr (.inr (.inl x))))=>bx51 x
 |_=>[]
def qmp:qan→ARes
 |(.inl (a,b,_,_,_))=>.panic (.iface 58 (.agg #[.int .i64 a,.int .i64 b]))
 |(.inr (a,b,c,d,e,f,g,_,_,_))=>.ret (.ag [ic a,.imm b,ic c,ic d,sc e,sc f,ic g])
def bx59:qan→List (List Cell)
 |(.inl (_,_,a,b,c))=>[[.imm a,ic b,ic c]]
 |(.inr (_,_,_,_,_,_,_,a,b,c))=>[[.imm a,ic b,ic c]]
def rs59:R22→ARes
 |(.inr (.inr (.inr (.inr (.inl x)))))=>qmp x
 |_=>.panic .nilIface
def bs59:R22→List (List Cell)
 |(.inr (.inr (.inr (.inr (.inl x)))))=>bx59 x
 |_=>[]
def qlU:qaa→ARes
 |(.inl (a,b,_,_,_))=>.panic (.iface 58 (.agg #[.int .i64 a,.int .i64 b]))
 |(.inr (a,b,c,d,e,f,g,_,_,_))=>.ret (.ag [ic a,.imm b,ic c,ic d,sc e,sc f,ic g])
def bx70:qaa→List (List Cell)
 |(.inl (_,_,a,b,c))=>[[.imm a,ic b,ic c]]
 |(.inr (_,_,_,_,_,_,_,a,b,c))=>[[.imm a,ic b,ic c]]
def rs70:R22→ARes
 |(.inr (.inr (.inr (.inr (.inr (.inl x))))))=>qlU x
 |_=>.panic .nilIface
def bs70:R22→List (List Cell)
 |(.inr (.inr (.inr (.inr (.inr (.inl x))))))=>bx70 x
 |_=>[]
def qma:QJ→ARes
 |(.inl (a,b,_,_,_))=>.panic (.iface 58 (.agg #[.int .i64 a,.int .i64 b]))
 |(.inr (.inl (a,b,c,d,e,f,g,_,_,_)))=>.ret (.ag [ic a,.own 7 b,ic c,ic d,sc e,sc f,ic g])
 |(.inr (.inr (a,b,c,d,e,f,g,_,_,_)))=>.ret (.ag [ic a,.imm b,ic c,ic d,sc e,sc f,ic g])
def bx78:QJ→List (List Cell)
 |(.inl (_,_,a,b,c))=>[[.imm a,ic b,ic c]]
 |(.inr (.inl (_,_,_,_,_,_,_,a,b,c)))=>[[.imm a,ic b,ic c]]
 |(.inr (.inr (_,_,_,_,_,_,_,a,b,c)))=>[[.imm a,ic b,ic c]]
def rs78:R22→ARes
 |(.inr (.inr (.inr (.inr (.inr (.inr (.inl x)))))))=>qma x
 |_=>.panic .nilIface
def bs78:R22→List (List Cell)
 |(.inr (.inr (.inr (.inr (.inr (.inr (.inl x)))))))=>bx78 x
 |_=>[]
def qmo:QG→ARes
 |(.inl (a,b,_,_,_))=>.panic (.iface 58 (.agg #[.int .i64 a,.int .i64 b]))
 |(.inr (.inl (a,b,c,d,e,f,g,_,_,_)))=>.ret (.ag [ic a,.imm b,ic c,ic d,sc e,sc f,ic g])
 |(.inr (.inr (a,b,c,d,e,f,g,_,_,_)))=>.ret (.ag [ic a,.own 7 b,ic c,ic d,sc e,sc f,ic g])
def bx83:QG→List (List Cell)
 |(.inl (_,_,a,b,c))=>[[.imm a,ic b,ic c]]
 |(.inr (.inl (_,_,_,_,_,_,_,a,b,c)))=>[[.imm a,ic b,ic c]]
 |(.inr (.inr (_,_,_,_,_,_,_,a,b,c)))=>[[.imm a,ic b,ic c]]
def rs83:R22→ARes
 |(.inr (.inr (.inr (.inr (.inr (.inr (.inr (.inl x))))))))=>qmo x
 |_=>.panic .nilIface
def bs83:R22→List (List Cell)
 |(.inr (.inr (.inr (.inr (.inr (.inr (.inr (.inl x))))))))=>bx83 x
 |_=>[]
def qlA:qal→ARes
 |(.inl (a,b,_,_,_))=>.panic (.iface 58 (.agg #[.int .i64 a,.int .i64 b]))
 |(.inr (a,b,c,d,e,f,g,_,_,_))=>.ret (.ag [ic a,.own 7 b,ic c,ic d,sc e,sc f,ic g])
def bx87:qal→List (List Cell)
 |(.inl (_,_,a,b,c))=>[[.imm a,ic b,ic c]]
 |(.inr (_,_,_,_,_,_,_,a,b,c))=>[[.imm a,ic b,ic c]]
def rs87:R22→ARes
 |(.inr (.inr (.inr (.inr (.inr (.inr (.inr (.inr (.inl x)))))))))=>qlA x
 |_=>.panic .nilIface
def bs87:R22→List (List Cell)
 |(.inr (.inr (.inr (.inr (.inr (.inr (.inr (.inr (.inl x)))))))))=>bx87 x
 |_=>[]
def qmY:QL→ARes
 |(.inl (a,b,_,_,_))=>.panic (.iface 58 (.agg #[.int .i64 a,.int .i64 b]))
 |(.inr (a,b,c,d,e,f,g,_,_,_))=>.ret (.ag [ic a,.own 7 b,ic c,ic d,sc e,sc f,ic g])
def bx38:QL→List (List Cell)
 |(.inl (_,_,a,b,c))=>[[.imm a,ic b,ic c]]
 |(.inr (_,_,_,_,_,_,_,a,b,c))=>[[.imm a,ic b,ic c]]
def rs38:R22→ARes
 |(.inr (.inr (.inr (.inr (.inr (.inr (.inr (.inr (.inr (.inl x))))))))))=>qmY x
 |_=>.panic .nilIface
def bs38:R22→List (List Cell)
 |(.inr (.inr (.inr (.inr (.inr (.inr (.inr (.inr (.inr (.inl x))))))))))=>bx38 x
 |_=>[]
def qkh:ZM→ARes
 |(.inl (a,b,_,_,_))=>.panic (.iface 58 (.agg #[.int .i64 a,.int .i64 b]))
 |(.inr (a,b,c,d,e,f,g,_,_,_))=>.ret (.ag [ic a,.own 7 b,ic c,ic d,sc e,sc f,ic g])
def qna:ZM→List (List Cell)
 |(.inl (_,_,a,b,c))=>[[.imm a,ic b,ic c]]
 |(.inr (_,_,_,_,_,_,_,a,b,c))=>[[.imm a,ic b,ic c]]
def qof:R22→ARes
 |(.inr (.inr (.inr (.inr (.inr (.inr (.inr (.inr (.inr (.inr (.inl x)))))))))))=>qkh x
 |_=>.panic .nilIface
def qnf:R22→List (List Cell)
 |(.inr (.inr (.inr (.inr (.inr (.inr (.inr (.inr (.inr (.inr (.inl x)))))))))))=>qna x
 |_=>[]
def qj7:ZG→ARes
 |(.inl (a,b,_,_,_))=>.panic (.iface 58 (.agg #[.int .i64 a,.int .i64 b]))
 |(.inr (a,b,c,d,e,f,g,_,_,_))=>.ret (.ag [ic a,.own 7 b,ic c,ic d,sc e,sc f,ic g])
def qmM:ZG→List (List Cell)
 |(.inl (_,_,a,b,c))=>[[.imm a,ic b,ic c]]
 |(.inr (_,_,_,_,_,_,_,a,b,c))=>[[.imm a,ic b,ic c]]
def qnK:R22→ARes
 |(.inr (.inr (.inr (.inr (.inr (.inr (.inr (.inr (.inr (.inr (.inr (.inl x))))))))))))=>qj7 x
 |_=>.panic .nilIface
def qnV:R22→List (List Cell)
 |(.inr (.inr (.inr (.inr (.inr (.inr (.inr (.inr (.inr (.inr (.inr (.inl x))))))))))))=>qmM x
 |_=>[]
def qkn:Yf→ARes
 |(.inl (a,b,_,_,_))=>.panic (.iface 58 (.agg #[.int .i64 a,.int .i64 b]))
 |(.inr (a,b,c,d,e,f,g,_,_,_))=>.ret (.ag [ic a,.own 7 b,ic c,ic d,sc e,sc f,ic g])
def qlF:Yf→List (List Cell)
 |(.inl (_,_,a,b,c))=>[[.imm a,ic b,ic c]]
 |(.inr (_,_,_,_,_,_,_,a,b,c))=>[[.imm a,ic b,ic c]]
def qnD:R22→ARes
 |(.inr (.inr (.inr (.inr (.inr (.inr (.inr (.inr (.inr (.inr (.inr (.inr (.inl x)))))))))))))=>qkn x
 |_=>.panic .nilIface
def qnY:R22→List (List Cell)
 |(.inr (.inr (.inr (.inr (.inr (.inr (.inr (.inr (.inr (.inr (.inr (.inr (.inl x)))))))))))))=>qlF x
 |_=>[]
def qj5:Yl→ARes
 |(.inl (a,b,_,_,_))=>.panic (.iface 58 (.agg #[.int .i64 a,.int .i64 b]))
 |(.inr (a,b,c,d,e,f,g,_,_,_))=>.ret (.ag [ic a,.own 7 b,ic c,ic d,sc e,sc f,ic g])
def qmZ:Yl→List (List Cell)
 |(.inl (_,_,a,b,c))=>[[.imm a,ic b,ic c]]
 |(.inr (_,_,_,_,_,_,_,a,b,c))=>[[.imm a,ic b,ic c]]
def qn3:R22→ARes
 |(.inr (.inr (.inr (.inr (.inr (.inr (.inr (.inr (.inr (.inr (.inr (.inr (.inr x)))))))))))))=>qj5 x
 |_=>.panic .nilIface
def qn8:R22→List (List Cell)
 |(.inr (.inr (.inr (.inr (.inr (.inr (.inr (.inr (.inr (.inr (.inr (.inr (.inr x)))))))))))))=>qmZ x
 |_=>[]
noncomputable def qb (k:Nat)(rec:S22→Option R22):S22→Option R22
 |.e_22 a b c=>
  (qdj (rec (.e_36 a b c))).bind fun d=>
  altC d (fun e=>
    tup5 e fun f g i j l=>
    some (.inl (.inl (f,g,i,j,l)))) (fun e=>
    ql e fun m n o p q t u i j l=>
    rec (.h0_22 m n o p q t u 0 0 0 (strB []) (strB []) 0 i j l))
 |.h0_22 a b c d e f g i j l m n o p q t=>
  (g37 k (strB [79,82]) p q t).bind fun u=>
  tup2 u fun v w=>
  bif v then
   (QY (rec (.e_38e 14 a b c d e f g w q t))).bind fun x=>
   altC x (fun y=>
     tup5 y fun z a1 b1 c1 d1=>
     some (.inl (.inl (z,a1,b1,c1,d1)))) (fun y=>
     ql y fun e1 f1 g1 i1 j1 l1 m1 b1 c1 d1=>
     rec (.h1_22 e1 f1 g1 i1 j1 l1 m1 i j l m n o b1 c1 d1))
  else
   some (.inl (.inr (a,b,c,d,e,f,g,w,q,t)))
 |.h1_22 a b c d e f g i j l m n o p q t=>
  (g37 k (strB [79,82]) p q t).bind fun u=>
  tup2 u fun v w=>
  bif v then
   (QY (rec (.e_38e 14 a (qG b) c d e f g w q t))).bind fun x=>
   altC x (fun y=>
     tup5 y fun z a1 b1 c1 d1=>
     some (.inl (.inl (z,a1,b1,c1,d1)))) (fun y=>
     ql y fun e1 f1 g1 i1 j1 l1 m1 b1 c1 d1=>
     rec (.h1_22 e1 f1 g1 i1 j1 l1 m1 i j l m n o b1 c1 d1))
  else
   some (.inl (.inr (a,qG b,c,d,e,f,g,w,q,t)))
 |.e_36 a b c=>
  (Yk (rec (.e_45 a b c))).bind fun d=>
  altC d (fun e=>
    tup5 e fun f g i j l=>
    some (.inr (.inl (.inl (f,g,i,j,l))))) (fun m=>altC m (fun e=>
    ql e fun n o p q t u v i j l=>
    rec (.h0_36 n o p q t u v 0 0 0 (strB []) (strB []) 0 i j l)) (fun e=>
    ql e fun n o p q t u v i j l=>
    rec (.h1_36 n o p q t u v 0 0 0 (strB []) (strB []) 0 i j l)))
 |.h0_36 a b c d e f g i j l m n o p q t=>
  (g37 k (strB [65,78,68]) p q t).bind fun u=>
  tup2 u fun v w=>
  bif v then
   (QX (rec (.e_38d 13 a b c d e f g w q t))).bind fun x=>
   altC x (fun y=>
     tup5 y fun z a1 b1 c1 d1=>
     some (.inr (.inl (.inl (z,a1,b1,c1,d1))))) (fun y=>
     ql y fun e1 f1 g1 i1 j1 l1 m1 b1 c1 d1=>
     rec (.h1_36 e1 f1 g1 i1 j1 l1 m1 i j l m n o b1 c1 d1))
  else
   some (.inr (.inl (.inr (a,b,c,d,e,f,g,w,q,t))))
 |.h1_36 a b c d e f g i j l m n o p q t=>
  (g37 k (strB [65,78,68]) p q t).bind fun u=>
  tup2 u fun v w=>
  bif v then
   (QX (rec (.e_38d 13 a (qG b) c d e f g w q t))).bind fun x=>
   altC x (fun y=>
     tup5 y fun z a1 b1 c1 d1=>
     some (.inr (.inl (.inl (z,a1,b1,c1,d1))))) (fun y=>
     ql y fun e1 f1 g1 i1 j1 l1 m1 b1 c1 d1=>
     rec (.h1_36 e1 f1 g1 i1 j1 l1 m1 i j l m n o b1 c1 d1))
  else
   some (.inr (.inl (.inr (a,qG b,c,d,e,f,g,w,q,t))))
 |.e_45 a b c=>
  (g37 k (strB [78,79,84]) a b c).bind fun d=>
  tup2 d fun e f=>
  bif !e then
   (qcr (rec (.e_51 f b c))).bind fun g=>
   altC g (fun i=>
     tup5 i fun j l m n o=>
     some (.inr (.inr (.inl (.inl (j,l,m,n,o)))))) (fun i=>
     ql i fun p q t u v w x m n o=>
     some (.inr (.inr (.inl (.inr (.inl (p,q,t,u,v,w,x,m,n,o)))))))
  else
   (g52 k f b c).bind fun g=>
   altC g (fun i=>
     tup5 i fun j l m n o=>
     some (.inr (.inr (.inl (.inl (j,l,m,n,o)))))) (fun i=>
     tup4 i fun y m n o=>
     (Yk (rec (.e_45 m n o))).bind fun z=>
     altC z (fun a1=>
       tup5 a1 fun b1 c1 d1 e1 f1=>
       some (.inr (.inr (.inl (.inl (b1,c1,d1,e1,f1)))))) (fun g1=>altC g1 (fun a1=>
       ql a1 fun i1 j1 l1 m1 n1 o1 p1 d1 e1 f1=>
       some (.inr (.inr (.inl (.inr (.inr (15,[[ic i1,.imm j1,ic l1,ic m1,sc n1,sc o1,ic p1]],0,0,strB [],strB [],y,d1,e1,IntKind.i64.wrap (f1-1)))))))) (fun a1=>
       ql a1 fun i1 j1 l1 m1 n1 o1 p1 d1 e1 f1=>
       some (.inr (.inr (.inl (.inr (.inr (15,[[ic i1,.imm (qG j1),ic l1,ic m1,sc n1,sc o1,ic p1]],0,0,strB [],strB [],y,d1,e1,IntKind.i64.wrap (f1-1))))))))))
 |.e_51 a b c=>
  (qbH (rec (.e_59 a b c))).bind fun d=>
  altC d (fun e=>
    tup5 e fun f g i j l=>
    some (.inr (.inr (.inr (.inl (.inl (f,g,i,j,l))))))) (fun e=>
    ql e fun m n o p q t u i j l=>
    (g60 k (strB [61,32,33,61,32,60,32,60,61,32,62,32,62,61]) 7 i j l).bind fun v=>
    tup2 v fun w x=>
    bif w != 0 then
     (qde (rec (.e_38c w m n o p q t u x j l))).bind fun y=>
     altC y (fun z=>
       tup5 z fun a1 b1 c1 d1 e1=>
       some (.inr (.inr (.inr (.inl (.inl (a1,b1,c1,d1,e1))))))) (fun z=>
       ql z fun f1 g1 i1 j1 l1 m1 n1 c1 d1 e1=>
       some (.inr (.inr (.inr (.inl (.inr (f1,qG g1,i1,j1,l1,m1,n1,c1,d1,e1)))))))
    else
     some (.inr (.inr (.inr (.inl (.inr (m,n,o,p,q,t,u,x,j,l)))))))
 |.e_59 a b c=>
  (qdT (rec (.e_70 a b c))).bind fun d=>
  altC d (fun e=>
    tup5 e fun f g i j l=>
    some (.inr (.inr (.inr (.inr (.inl (.inl (f,g,i,j,l)))))))) (fun e=>
    ql e fun m n o p q t u i j l=>
    rec (.h0_59 m n o p q t u 0 0 0 (strB []) (strB []) 0 i j l))
 |.h0_59 a b c d e f g i j l m n o p q t=>
  (g60 k (strB [43,32,45]) 1 p q t).bind fun u=>
  tup2 u fun v w=>
  bif v==0 then
   some (.inr (.inr (.inr (.inr (.inl (.inr (a,b,c,d,e,f,g,w,q,t)))))))
  else
   (QW (rec (.e_38b v a b c d e f g w q t))).bind fun x=>
   altC x (fun y=>
     tup5 y fun z a1 b1 c1 d1=>
     some (.inr (.inr (.inr (.inr (.inl (.inl (z,a1,b1,c1,d1)))))))) (fun y=>
     ql y fun e1 f1 g1 i1 j1 l1 m1 b1 c1 d1=>
     rec (.h1_59 e1 f1 g1 i1 j1 l1 m1 i j l m n o b1 c1 d1))
 |.h1_59 a b c d e f g i j l m n o p q t=>
  (g60 k (strB [43,32,45]) 1 p q t).bind fun u=>
  tup2 u fun v w=>
  bif v==0 then
   some (.inr (.inr (.inr (.inr (.inl (.inr (a,qG b,c,d,e,f,g,w,q,t)))))))
  else
   (QW (rec (.e_38b v a (qG b) c d e f g w q t))).bind fun x=>
   altC x (fun y=>
     tup5 y fun z a1 b1 c1 d1=>
     some (.inr (.inr (.inr (.inr (.inl (.inl (z,a1,b1,c1,d1)))))))) (fun y=>
     ql y fun e1 f1 g1 i1 j1 l1 m1 b1 c1 d1=>
     rec (.h1_59 e1 f1 g1 i1 j1 l1 m1 i j l m n o b1 c1 d1))
 |.e_70 a b c=>
  (ZC (rec (.e_78 a b c))).bind fun d=>
  altC d (fun e=>
    tup5 e fun f g i j l=>
    some (.inr (.inr (.inr (.inr (.inr (.inl (.inl (f,g,i,j,l))))))))) (fun m=>altC m (fun e=>
    ql e fun n o p q t u v i j l=>
    rec (.h0_70 n o p q t u v 0 0 0 (strB []) (strB []) 0 i j l)) (fun e=>
    ql e fun n o p q t u v i j l=>
    rec (.h1_70 n o p q t u v 0 0 0 (strB []) (strB []) 0 i j l)))
 |.h0_70 a b c d e f g i j l m n o p q t=>
  (g60 k (strB [42,32,47,32,37]) 3 p q t).bind fun u=>
  tup2 u fun v w=>
  bif v==0 then
   some (.inr (.inr (.inr (.inr (.inr (.inl (.inr (a,qG b,c,d,e,f,g,w,q,t))))))))
  else
   (qdm (rec (.e_38 v a (qG b) c d e f g w q t))).bind fun x=>
   altC x (fun y=>
     tup5 y fun z a1 b1 c1 d1=>
     some (.inr (.inr (.inr (.inr (.inr (.inl (.inl (z,a1,b1,c1,d1))))))))) (fun y=>
     ql y fun e1 f1 g1 i1 j1 l1 m1 b1 c1 d1=>
     rec (.h0_70 e1 f1 g1 i1 j1 l1 m1 i j l m n o b1 c1 d1))
 |.h1_70 a b c d e f g i j l m n o p q t=>
  (g60 k (strB [42,32,47,32,37]) 3 p q t).bind fun u=>
  tup2 u fun v w=>
  bif v==0 then
   some (.inr (.inr (.inr (.inr (.inr (.inl (.inr (a,b,c,d,e,f,g,w,q,t))))))))
  else
   (qdm (rec (.e_38 v a b c d e f g w q t))).bind fun x=>
   altC x (fun y=>
     tup5 y fun z a1 b1 c1 d1=>
     some (.inr (.inr (.inr (.inr (.inr (.inl (.inl (z,a1,b1,c1,d1))))))))) (fun y=>
     ql y fun e1 f1 g1 i1 j1 l1 m1 b1 c1 d1=>
     rec (.h0_70 e1 f1 g1 i1 j1 l1 m1 i j l m n o b1 c1 d1))
 |.e_78 a b c=>
  (g37 k (strB [45]) a b c).bind fun d=>
  tup2 d fun e f=>
  bif !e then
   (qbF (rec (.e_83 f b c))).bind fun g=>
   altC g (fun i=>
     tup5 i fun j l m n o=>
     some (.inr (.inr (.inr (.inr (.inr (.inr (.inl (.inl (j,l,m,n,o)))))))))) (fun p=>altC p (fun i=>
     ql i fun q t u v w x y m n o=>
     rec (.h0_78 q t u v w x y m n o)) (fun i=>
     ql i fun q t u v w x y m n o=>
     rec (.h1_78 q t u v w x y m n o)))
  else
   (g52 k f b c).bind fun g=>
   altC g (fun i=>
     tup5 i fun j l m n o=>
     some (.inr (.inr (.inr (.inr (.inr (.inr (.inl (.inl (j,l,m,n,o)))))))))) (fun i=>
     tup4 i fun z m n o=>
     (ZC (rec (.e_78 m n o))).bind fun a1=>
     altC a1 (fun b1=>
       tup5 b1 fun c1 d1 e1 f1 g1=>
       some (.inr (.inr (.inr (.inr (.inr (.inr (.inl (.inl (c1,d1,e1,f1,g1)))))))))) (fun i1=>altC i1 (fun b1=>
       ql b1 fun j1 l1 m1 n1 o1 p1 q1 e1 f1 g1=>
       rec (.h2_78 6 [[ic j1,.imm (qG l1),ic m1,ic n1,sc o1,sc p1,ic q1]] 0 0 (strB []) (strB []) z e1 f1 (IntKind.i64.wrap (g1-1)))) (fun b1=>
       ql b1 fun j1 l1 m1 n1 o1 p1 q1 e1 f1 g1=>
       rec (.h2_78 6 [[ic j1,.imm l1,ic m1,ic n1,sc o1,sc p1,ic q1]] 0 0 (strB []) (strB []) z e1 f1 (IntKind.i64.wrap (g1-1))))))
 |.h0_78 a b c d e f g i j l=>some (.inr (.inr (.inr (.inr (.inr (.inr (.inl (.inr (.inr (a,b,c,d,e,f,g,i,j,l))))))))))
 |.h1_78 a b c d e f g i j l=>some (.inr (.inr (.inr (.inr (.inr (.inr (.inl (.inr (.inl (a,b,c,d,e,f,g,i,j,l))))))))))
 |.h2_78 a b c d e f g i j l=>some (.inr (.inr (.inr (.inr (.inr (.inr (.inl (.inr (.inl (a,b,c,d,e,f,g,i,j,l))))))))))
 |.e_83 a b c=>
  (g46 k a b c).bind fun d=>
  tup6 d fun e f g i j l=>
  bif e==3 then
   rec (.h0_83 20 [] g 0 (strB []) (strB []) j l (IntKind.i64.wrap (b+1)) c)
  else
   bif e==4 then
    rec (.h1_83 21 [] g i (strB []) (strB []) j l (IntKind.i64.wrap (b+1)) c)
   else
    bif e==5 then
     rec (.h2_83 23 [] 0 0 f (strB []) j l (IntKind.i64.wrap (b+1)) c)
    else
     bif e==2 then
      (g85 k l b c).bind fun m=>
      altC m (fun n=>
        tup4 n fun o p q t=>
        some (.inr (.inr (.inr (.inr (.inr (.inr (.inr (.inl (.inl (o,p,q,t,c))))))))))) (fun n=>
        tup4 n fun u v q t=>
        rec (.h3_83 24 [] 0 0 u v j q t c))
     else
      bif e==6 then
       bif f.toList==(strB [40]).toList then
        (g52 k l b c).bind fun n=>
        altC n (fun w=>
          tup5 w fun x y z a1 b1=>
          some (.inr (.inr (.inr (.inr (.inr (.inr (.inr (.inl (.inl (x,y,z,a1,b1))))))))))) (fun w=>
          tup4 w fun _ z a1 b1=>
          (qat (rec (.e_22 z a1 b1))).bind fun c1=>
          altC c1 (fun d1=>
            tup5 d1 fun e1 f1 g1 i1 j1=>
            some (.inr (.inr (.inr (.inr (.inr (.inr (.inr (.inl (.inl (e1,f1,g1,i1,j1))))))))))) (fun d1=>
            ql d1 fun l1 m1 n1 o1 p1 q1 t1 g1 i1 j1=>
            (g86 k (strB [41]) g1 i1 j1).bind fun u1=>
            altC u1 (fun v1=>
              tup4 v1 fun w1 x1 y1 z1=>
              some (.inr (.inr (.inr (.inr (.inr (.inr (.inr (.inl (.inl (w1,x1,y1,z1,j1))))))))))) (fun v1=>
              tup2 v1 fun y1 z1=>
              rec (.h4_83 l1 m1 n1 o1 p1 q1 t1 y1 z1 (IntKind.i64.wrap (j1-1))))))
       else
        rec (.h5_83 e f g i j 0 0 0 (strB []) (strB []) 0 l b c)
      else
       bif e==1 then
        (qhQ (rec (.e_87 e f g i j l b c))).bind fun n=>
        altC n (fun w=>
          tup5 w fun x y z a1 b1=>
          some (.inr (.inr (.inr (.inr (.inr (.inr (.inr (.inl (.inl (x,y,z,a1,b1))))))))))) (fun w=>
          ql w fun a2 b2 c2 d2 e2 f2 g2 z a1 b1=>
          rec (.h6_83 a2 b2 c2 d2 e2 f2 g2 z a1 b1))
       else
        rec (.h5_83 e f g i j 0 0 0 (strB []) (strB []) 0 l b c)
 |.h0_83 a b c d e f g i j l=>some (.inr (.inr (.inr (.inr (.inr (.inr (.inr (.inl (.inr (.inl (a,b,c,d,e,f,g,i,j,l)))))))))))
 |.h1_83 a b c d e f g i j l=>some (.inr (.inr (.inr (.inr (.inr (.inr (.inr (.inl (.inr (.inl (a,b,c,d,e,f,g,i,j,l)))))))))))
 |.h2_83 a b c d e f g i j l=>some (.inr (.inr (.inr (.inr (.inr (.inr (.inr (.inl (.inr (.inl (a,b,c,d,e,f,g,i,j,l)))))))))))
 |.h3_83 a b c d e f g i j l=>some (.inr (.inr (.inr (.inr (.inr (.inr (.inr (.inl (.inr (.inl (a,b,c,d,e,f,g,i,j,l)))))))))))
 |.h4_83 a b c d e f g i j l=>some (.inr (.inr (.inr (.inr (.inr (.inr (.inr (.inl (.inr (.inl (a,b,c,d,e,f,g,i,j,l)))))))))))
 |.h5_83 _ _ _ _ a _ _ _ _ _ _ b c d=>some (.inr (.inr (.inr (.inr (.inr (.inr (.inr (.inl (.inl (a,13,b,c,d))))))))))
 |.h6_83 a b c d e f g i j l=>some (.inr (.inr (.inr (.inr (.inr (.inr (.inr (.inl (.inr (.inr (a,b,c,d,e,f,g,i,j,l)))))))))))
 |.e_87 a b c d e f g i=>
  bif b.toList==(strB [84,82,85,69]).toList then
   rec (.h0_87 b true 0 0 0 (strB []) (strB []) 0 a b c d e f g i)
  else
   rec (.h0_87 b (b.toList==(strB [70,65,76,83,69]).toList) 0 0 0 (strB []) (strB []) 0 a b c d e f g i)
 |.h0_87 a b c d e f g i j l m n o p q t=>
  bif b then
   bif l.toList==(strB [84,82,85,69]).toList then
    rec (.h1_87 1 c d e f g i j l m n o p (IntKind.i64.wrap (q+1)) t)
   else
    rec (.h1_87 0 c d e f g i j l m n o p (IntKind.i64.wrap (q+1)) t)
  else
   bif a.toList==(strB [82,69,65,76]).toList then
    rec (.h2_87 true c d e f g i j l m n o p q t)
   else
    rec (.h2_87 (a.toList==(strB [73,83,78,65,78]).toList) c d e f g i j l m n o p q t)
 |.h1_87 a _ _ _ _ _ _ _ _ _ _ b c d e=>rec (.h3_87 22 [] a 0 (strB []) (strB []) b c d e)
 |.h2_87 a _ _ _ _ _ _ b c d e f g i j=>
  bif a then
   (g52 k g i j).bind fun l=>
   altC l (fun m=>
     tup5 m fun n o p q t=>
     some (.inr (.inr (.inr (.inr (.inr (.inr (.inr (.inr (.inl (.inl (n,o,p,q,t)))))))))))) (fun m=>
     tup4 m fun _ p q t=>
     (g86 k (strB [40]) p q t).bind fun u=>
     altC u (fun v=>
       tup4 v fun w x y z=>
       some (.inr (.inr (.inr (.inr (.inr (.inr (.inr (.inr (.inl (.inl (w,x,y,z,t)))))))))))) (fun v=>
       tup2 v fun y z=>
       (qat (rec (.e_22 y z t))).bind fun a1=>
       altC a1 (fun b1=>
         tup5 b1 fun c1 d1 e1 f1 g1=>
         some (.inr (.inr (.inr (.inr (.inr (.inr (.inr (.inr (.inl (.inl (c1,d1,e1,f1,g1)))))))))))) (fun b1=>
         ql b1 fun i1 j1 l1 m1 n1 o1 p1 e1 f1 g1=>
         (g86 k (strB [41]) e1 f1 g1).bind fun q1=>
         altC q1 (fun t1=>
           tup4 t1 fun u1 v1 w1 x1=>
           some (.inr (.inr (.inr (.inr (.inr (.inr (.inr (.inr (.inl (.inl (u1,v1,w1,x1,g1)))))))))))) (fun t1=>
           tup2 t1 fun w1 x1=>
           bif c.toList==(strB [73,83,78,65,78]).toList then
            rec (.h4_87 17 [[ic i1,.imm j1,ic l1,ic m1,sc n1,sc o1,ic p1]] 0 0 (strB []) (strB []) f w1 x1 (IntKind.i64.wrap (g1-1)))
           else
            rec (.h4_87 16 [[ic i1,.imm j1,ic l1,ic m1,sc n1,sc o1,ic p1]] 0 0 (strB []) (strB []) f w1 x1 (IntKind.i64.wrap (g1-1)))))))
  else
   (g91 k b c d e f g i j).bind fun l=>
   altC l (fun m=>
     tup4 m fun n o p q=>
     some (.inr (.inr (.inr (.inr (.inr (.inr (.inr (.inr (.inl (.inl (n,o,p,q,j)))))))))))) (fun m=>
     tup8 m fun y1 z1 a2 b2 c2 d2 p q=>
     rec (.h5_87 y1 [] z1 a2 b2 c2 d2 p q j))
 |.h3_87 a b c d e f g i j l=>some (.inr (.inr (.inr (.inr (.inr (.inr (.inr (.inr (.inl (.inr (a,b,c,d,e,f,g,i,j,l)))))))))))
 |.h4_87 a b c d e f g i j l=>some (.inr (.inr (.inr (.inr (.inr (.inr (.inr (.inr (.inl (.inr (a,b,c,d,e,f,g,i,j,l)))))))))))
 |.h5_87 a b c d e f g i j l=>some (.inr (.inr (.inr (.inr (.inr (.inr (.inr (.inr (.inl (.inr (a,b,c,d,e,f,g,i,j,l)))))))))))
 |.e_38 a b c d e f g i j l m=>
  (g46 k j l m).bind fun n=>
  tup6 n fun _ _ _ _ o p=>
  (ZC (rec (.e_78 p (IntKind.i64.wrap (l+1)) m))).bind fun q=>
  altC q (fun t=>
    tup5 t fun u v w x y=>
    some (.inr (.inr (.inr (.inr (.inr (.inr (.inr (.inr (.inr (.inl (.inl (u,v,w,x,y))))))))))))) (fun z=>altC z (fun t=>
    ql t fun a1 b1 c1 d1 e1 f1 g1 w x y=>
    some (.inr (.inr (.inr (.inr (.inr (.inr (.inr (.inr (.inr (.inl (.inr (a,[[ic b,.imm c,ic d,ic e,sc f,sc g,ic i],[ic a1,.own 7 b1,ic c1,ic d1,sc e1,sc f1,ic g1]],0,0,strB [],strB [],o,w,x,y))))))))))))) (fun t=>
    ql t fun a1 b1 c1 d1 e1 f1 g1 w x y=>
    some (.inr (.inr (.inr (.inr (.inr (.inr (.inr (.inr (.inr (.inl (.inr (a,[[ic b,.imm c,ic d,ic e,sc f,sc g,ic i],[ic a1,.imm b1,ic c1,ic d1,sc e1,sc f1,ic g1]],0,0,strB [],strB [],o,w,x,y))))))))))))))
 |.e_38b a b c d e f g i j l m=>
  (g46 k j l m).bind fun n=>
  tup6 n fun _ _ _ _ o p=>
  (qdT (rec (.e_70 p (IntKind.i64.wrap (l+1)) m))).bind fun q=>
  altC q (fun t=>
    tup5 t fun u v w x y=>
    some (.inr (.inr (.inr (.inr (.inr (.inr (.inr (.inr (.inr (.inr (.inl (.inl (u,v,w,x,y)))))))))))))) (fun t=>
    ql t fun z a1 b1 c1 d1 e1 f1 w x y=>
    some (.inr (.inr (.inr (.inr (.inr (.inr (.inr (.inr (.inr (.inr (.inl (.inr (a,[[ic b,.imm c,ic d,ic e,sc f,sc g,ic i],[ic z,.imm a1,ic b1,ic c1,sc d1,sc e1,ic f1]],0,0,strB [],strB [],o,w,x,y))))))))))))))
 |.e_38c a b c d e f g i j l m=>
  (g46 k j l m).bind fun n=>
  tup6 n fun _ _ _ _ o p=>
  (qbH (rec (.e_59 p (IntKind.i64.wrap (l+1)) m))).bind fun q=>
  altC q (fun t=>
    tup5 t fun u v w x y=>
    some (.inr (.inr (.inr (.inr (.inr (.inr (.inr (.inr (.inr (.inr (.inr (.inl (.inl (u,v,w,x,y))))))))))))))) (fun t=>
    ql t fun z a1 b1 c1 d1 e1 f1 w x y=>
    some (.inr (.inr (.inr (.inr (.inr (.inr (.inr (.inr (.inr (.inr (.inr (.inl (.inr (a,[[ic b,.imm c,ic d,ic e,sc f,sc g,ic i],[ic z,.imm a1,ic b1,ic c1,sc d1,sc e1,ic f1]],0,0,strB [],strB [],o,w,x,y)))))))))))))))
 |.e_38d a b c d e f g i j l m=>
  (g46 k j l m).bind fun n=>
  tup6 n fun _ _ _ _ o p=>
  (Yk (rec (.e_45 p (IntKind.i64.wrap (l+1)) m))).bind fun q=>
  altC q (fun t=>
    tup5 t fun u v w x y=>
    some (.inr (.inr (.inr (.inr (.inr (.inr (.inr (.inr (.inr (.inr (.inr (.inr (.inl (.inl (u,v,w,x,y)))))))))))))))) (fun z=>altC z (fun t=>
    ql t fun a1 b1 c1 d1 e1 f1 g1 w x y=>
    some (.inr (.inr (.inr (.inr (.inr (.inr (.inr (.inr (.inr (.inr (.inr (.inr (.inl (.inr (a,[[ic b,.imm c,ic d,ic e,sc f,sc g,ic i],[ic a1,.imm b1,ic c1,ic d1,sc e1,sc f1,ic g1]],0,0,strB [],strB [],o,w,x,y)))))))))))))))) (fun t=>
    ql t fun a1 b1 c1 d1 e1 f1 g1 w x y=>
    some (.inr (.inr (.inr (.inr (.inr (.inr (.inr (.inr (.inr (.inr (.inr (.inr (.inl (.inr (a,[[ic b,.imm c,ic d,ic e,sc f,sc g,ic i],[ic a1,.own 7 b1,ic c1,ic d1,sc e1,sc f1,ic g1]],0,0,strB [],strB [],o,w,x,y)))))))))))))))))
 |.e_38e a b c d e f g i j l m=>
  (g46 k j l m).bind fun n=>
  tup6 n fun _ _ _ _ o p=>
  (qdj (rec (.e_36 p (IntKind.i64.wrap (l+1)) m))).bind fun q=>
  altC q (fun t=>
    tup5 t fun u v w x y=>
    some (.inr (.inr (.inr (.inr (.inr (.inr (.inr (.inr (.inr (.inr (.inr (.inr (.inr (.inl (u,v,w,x,y)))))))))))))))) (fun t=>
    ql t fun z a1 b1 c1 d1 e1 f1 w x y=>
    some (.inr (.inr (.inr (.inr (.inr (.inr (.inr (.inr (.inr (.inr (.inr (.inr (.inr (.inr (a,[[ic b,.imm c,ic d,ic e,sc f,sc g,ic i],[ic z,.imm a1,ic b1,ic c1,sc d1,sc e1,ic f1]],0,0,strB [],strB [],o,w,x,y))))))))))))))))
noncomputable def g22 (k:Nat)(a:Rs)(b c:Int):Option zY:=qat (itS qb k (.e_22 a b c))
noncomputable def P22:S22→R22→Prop
 |.e_22 a b c,r=>Fin cx22 Tryd.f22 [.code qh1] (fr0 Tryd.f22 [pP 0] [[.imm a,ic b,ic c]]) (rs22 r) (bs22 r)
 |.h0_22 a b c d e f g i j l m n o p q t,r=>Fin cx22 Tryd.f22 (kAt qh1 [1,1,0,0,4] []) ⟨[pP 0,.deadv,pL 2,pL 3]++rep 10 .deadv,[(.loc 3,[ic a,.imm b,ic c,ic d,sc e,sc f,ic g]),(.loc 2,[ic i,.nil,ic j,ic l,sc m,sc n,ic o]),(.par 0,[.imm p,ic q,ic t])]⟩ (rs22 r) (bs22 r)
 |.h1_22 a b c d e f g i j l m n o p q t,r=>Fin cx22 Tryd.f22 (kAt qh1 [1,1,0,0,4] []) ⟨[pP 0,.deadv,pL 2,pL 3]++rep 10 .deadv,[(.loc 3,[ic a,.own 7 b,ic c,ic d,sc e,sc f,ic g]),(.loc 2,[ic i,.nil,ic j,ic l,sc m,sc n,ic o]),(.par 0,[.imm p,ic q,ic t])]⟩ (rs22 r) (bs22 r)
 |.e_36 a b c,r=>Fin cx36 Tryd.f36 [.code qg4] (fr0 Tryd.f36 [pP 0] [[.imm a,ic b,ic c]]) (rs36 r) (bs36 r)
 |.h0_36 a b c d e f g i j l m n o p q t,r=>Fin cx36 Tryd.f36 (kAt qg4 [1,1,0,0,4] []) ⟨[pP 0,.deadv,pL 2,pL 3]++rep 10 .deadv,[(.loc 3,[ic a,.imm b,ic c,ic d,sc e,sc f,ic g]),(.loc 2,[ic i,.nil,ic j,ic l,sc m,sc n,ic o]),(.par 0,[.imm p,ic q,ic t])]⟩ (rs36 r) (bs36 r)
 |.h1_36 a b c d e f g i j l m n o p q t,r=>Fin cx36 Tryd.f36 (kAt qg4 [1,1,0,0,4] []) ⟨[pP 0,.deadv,pL 2,pL 3]++rep 10 .deadv,[(.loc 3,[ic a,.own 7 b,ic c,ic d,sc e,sc f,ic g]),(.loc 2,[ic i,.nil,ic j,ic l,sc m,sc n,ic o]),(.par 0,[.imm p,ic q,ic t])]⟩ (rs36 r) (bs36 r)
 |.e_45 a b c,r=>Fin cx45 Tryd.f45 [.code qm7] (fr0 Tryd.f45 [pP 0] [[.imm a,ic b,ic c]]) (rs45 r) (bs45 r)
 |.e_51 a b c,r=>Fin cx51 Tryd.f51 [.code qhR] (fr0 Tryd.f51 [pP 0] [[.imm a,ic b,ic c]]) (rs51 r) (bs51 r)
 |.e_59 a b c,r=>Fin cx59 Tryd.f59 [.code qgO] (fr0 Tryd.f59 [pP 0] [[.imm a,ic b,ic c]]) (rs59 r) (bs59 r)
 |.h0_59 a b c d e f g i j l m n o p q t,r=>Fin cx59 Tryd.f59 (kAt qgO [1,1,0,4] []) ⟨[pP 0,.deadv,pL 2,pL 3]++rep 14 .deadv,[(.loc 3,[ic a,.imm b,ic c,ic d,sc e,sc f,ic g]),(.loc 2,[ic i,.nil,ic j,ic l,sc m,sc n,ic o]),(.par 0,[.imm p,ic q,ic t])]⟩ (rs59 r) (bs59 r)
 |.h1_59 a b c d e f g i j l m n o p q t,r=>Fin cx59 Tryd.f59 (kAt qgO [1,1,0,4] []) ⟨[pP 0,.deadv,pL 2,pL 3]++rep 14 .deadv,[(.loc 3,[ic a,.own 7 b,ic c,ic d,sc e,sc f,ic g]),(.loc 2,[ic i,.nil,ic j,ic l,sc m,sc n,ic o]),(.par 0,[.imm p,ic q,ic t])]⟩ (rs59 r) (bs59 r)
 |.e_70 a b c,r=>Fin cx70 Tryd.f70 [.code qhg] (fr0 Tryd.f70 [pP 0] [[.imm a,ic b,ic c]]) (rs70 r) (bs70 r)
 |.h0_70 a b c d e f g i j l m n o p q t,r=>Fin cx70 Tryd.f70 (kAt qhg [1,1,0,4] []) ⟨[pP 0,.deadv,pL 2,pL 3]++rep 14 .deadv,[(.loc 3,[ic a,.own 7 b,ic c,ic d,sc e,sc f,ic g]),(.loc 2,[ic i,.nil,ic j,ic l,sc m,sc n,ic o]),(.par 0,[.imm p,ic q,ic t])]⟩ (rs70 r) (bs70 r)
 |.h1_70 a b c d e f g i j l m n o p q t,r=>Fin cx70 Tryd.f70 (kAt qhg [1,1,0,4] []) ⟨[pP 0,.deadv,pL 2,pL 3]++rep 14 .deadv,[(.loc 3,[ic a,.imm b,ic c,ic d,sc e,sc f,ic g]),(.loc 2,[ic i,.nil,ic j,ic l,sc m,sc n,ic o]),(.par 0,[.imm p,ic q,ic t])]⟩ (rs70 r) (bs70 r)
 |.e_78 a b c,r=>Fin cx78 Tryd.f78 [.code qfT] (fr0 Tryd.f78 [pP 0] [[.imm a,ic b,ic c]]) (rs78 r) (bs78 r)
 |.h0_78 a b c d e f g i j l,r=>Fin cx78 Tryd.f78 (kAt qfT [1,0,1,0,1,2] []) ⟨[.deadv,.deadv,pL 2]++rep 22 .deadv,[(.loc 2,[ic a,.imm b,ic c,ic d,sc e,sc f,ic g]),(.par 0,[.imm i,ic j,ic l])]⟩ (rs78 r) (bs78 r)
 |.h1_78 a b c d e f g i j l,r=>Fin cx78 Tryd.f78 (kAt qfT [1,0,1,0,1,2] []) ⟨[.deadv,.deadv,pL 2]++rep 22 .deadv,[(.loc 2,[ic a,.own 7 b,ic c,ic d,sc e,sc f,ic g]),(.par 0,[.imm i,ic j,ic l])]⟩ (rs78 r) (bs78 r)
 |.h2_78 a b c d e f g i j l,r=>Fin cx78 Tryd.f78 (kAt qfT [1,1,1,1,1,1,2] []) ⟨[.deadv,.deadv,pL 2]++rep 22 .deadv,[(.loc 2,[ic a,.own 7 b,ic c,ic d,sc e,sc f,ic g]),(.par 0,[.imm i,ic j,ic l])]⟩ (rs78 r) (bs78 r)
 |.e_83 a b c,r=>Fin cx83 Tryd.f83 [.code qai] (fr0 Tryd.f83 [pP 0] [[.imm a,ic b,ic c]]) (rs83 r) (bs83 r)
 |.h0_83 a b c d e f g i j l,r=>Fin cx83 Tryd.f83 (kAt qai [1,1,0,1,0,1,0,1,1,2] []) ⟨[.deadv,.deadv,pL 2]++rep 92 .deadv,[(.loc 2,[ic a,.imm b,ic c,ic d,sc e,sc f,ic g]),(.par 0,[.imm i,ic j,ic l])]⟩ (rs83 r) (bs83 r)
 |.h1_83 a b c d e f g i j l,r=>Fin cx83 Tryd.f83 (kAt qai [1,1,0,1,0,1,1,1,0,1,1,2] []) ⟨[.deadv,.deadv,pL 2]++rep 92 .deadv,[(.loc 2,[ic a,.imm b,ic c,ic d,sc e,sc f,ic g]),(.par 0,[.imm i,ic j,ic l])]⟩ (rs83 r) (bs83 r)
 |.h2_83 a b c d e f g i j l,r=>Fin cx83 Tryd.f83 (kAt qai [1,1,0,1,0,1,1,1,1,1,0,1,1,2] []) ⟨[.deadv,.deadv,pL 2]++rep 92 .deadv,[(.loc 2,[ic a,.imm b,ic c,ic d,sc e,sc f,ic g]),(.par 0,[.imm i,ic j,ic l])]⟩ (rs83 r) (bs83 r)
 |.h3_83 a b c d e f g i j l,r=>Fin cx83 Tryd.f83 (kAt qai [1,1,0,1,0,1,1,1,1,1,1,1,0,1,1,2] []) ⟨[.deadv,.deadv,pL 2]++rep 92 .deadv,[(.loc 2,[ic a,.imm b,ic c,ic d,sc e,sc f,ic g]),(.par 0,[.imm i,ic j,ic l])]⟩ (rs83 r) (bs83 r)
 |.h4_83 a b c d e f g i j l,r=>Fin cx83 Tryd.f83 (kAt qai [1,1,0,1,0,1,1,1,1,1,1,1,1,1,0,1,0,1,1,1,1,1,2] []) ⟨[.deadv,.deadv,pL 2]++rep 92 .deadv,[(.loc 2,[ic a,.imm b,ic c,ic d,sc e,sc f,ic g]),(.par 0,[.imm i,ic j,ic l])]⟩ (rs83 r) (bs83 r)
 |.h5_83 a b c d e f g i j l m n o p,r=>Fin cx83 Tryd.f83 (kAt qai [1,1,1,2] []) ⟨[.deadv,.deadv,pL 2,pL 3]++rep 91 .deadv,[(.loc 3,[ic a,sc b,ic c,ic d,ic e]),(.loc 2,[ic f,.nil,ic g,ic i,sc j,sc l,ic m]),(.par 0,[.imm n,ic o,ic p])]⟩ (rs83 r) (bs83 r)
 |.h6_83 a b c d e f g i j l,r=>Fin cx83 Tryd.f83 (kAt qai [1,1,0,1,0,1,1,1,1,1,1,1,1,1,1,1,0,1,2] []) ⟨[.deadv,.deadv,pL 2]++rep 92 .deadv,[(.loc 2,[ic a,.own 7 b,ic c,ic d,sc e,sc f,ic g]),(.par 0,[.imm i,ic j,ic l])]⟩ (rs83 r) (bs83 r)
 |.e_87 a b c d e f g i,r=>Fin cx87 Tryd.f87 [.code qa5] (fr0 Tryd.f87 [pP 0,.ag [ic a,sc b,ic c,ic d,ic e]] [[.imm f,ic g,ic i]]) (rs87 r) (bs87 r)
 |.h0_87 a b c d e f g i j l m n o p q t,r=>Fin cx87 Tryd.f87 (kAt qa5 [1,0,1,0,1,2] []) ⟨[pP 0,.deadv,.deadv,pL 3,pL 4]++rep 4 .deadv++[.c (sc a),.c (bc b)]++rep 46 .deadv,[(.loc 4,[ic c,.nil,ic d,ic e,sc f,sc g,ic i]),(.loc 3,[ic j,sc l,ic m,ic n,ic o]),(.par 0,[.imm p,ic q,ic t])]⟩ (rs87 r) (bs87 r)
 |.h1_87 a b c d e f g i j l m n o p q,r=>Fin cx87 Tryd.f87 (kAt qa5 [1,0,1,0,1,0,1,1,1,2] []) ⟨rep 3 .deadv++[pL 3,pL 4,.c (ic a)]++rep 51 .deadv,[(.loc 4,[ic b,.nil,ic c,ic d,sc e,sc f,ic g]),(.loc 3,[ic i,sc j,ic l,ic m,ic n]),(.par 0,[.imm o,ic p,ic q])]⟩ (rs87 r) (bs87 r)
 |.h2_87 a b c d e f g i j l m n o p q,r=>Fin cx87 Tryd.f87 (kAt qa5 [1,0,1,0,1,1,1,2] []) ⟨[pP 0,.deadv,.deadv,pL 3,pL 4]++rep 22 .deadv++[.c (bc a)]++rep 29 .deadv,[(.loc 4,[ic b,.nil,ic c,ic d,sc e,sc f,ic g]),(.loc 3,[ic i,sc j,ic l,ic m,ic n]),(.par 0,[.imm o,ic p,ic q])]⟩ (rs87 r) (bs87 r)
 |.h3_87 a b c d e f g i j l,r=>Fin cx87 Tryd.f87 (kAt qa5 [1,0,1,0,1,0,1,1,1,1,2] []) ⟨rep 4 .deadv++[pL 4]++rep 52 .deadv,[(.loc 4,[ic a,.own 7 b,ic c,ic d,sc e,sc f,ic g]),(.par 0,[.imm i,ic j,ic l])]⟩ (rs87 r) (bs87 r)
 |.h4_87 a b c d e f g i j l,r=>Fin cx87 Tryd.f87 (kAt qa5 [1,0,1,0,1,1,1,0,1,1,1,1,1,1,1,1,2] []) ⟨rep 4 .deadv++[pL 4]++rep 52 .deadv,[(.loc 4,[ic a,.own 7 b,ic c,ic d,sc e,sc f,ic g]),(.par 0,[.imm i,ic j,ic l])]⟩ (rs87 r) (bs87 r)
 |.h5_87 a b c d e f g i j l,r=>Fin cx87 Tryd.f87 (kAt qa5 [1,1,1,2] []) ⟨rep 4 .deadv++[pL 4]++rep 52 .deadv,[(.loc 4,[ic a,.own 7 b,ic c,ic d,sc e,sc f,ic g]),(.par 0,[.imm i,ic j,ic l])]⟩ (rs87 r) (bs87 r)
 |.e_38 a b c d e f g i j l m,r=>Fin cx38 Tryd.f38 [.code qdY] (fr0 Tryd.f38 [pP 0,.c (ic a),.ag [ic b,.imm c,ic d,ic e,sc f,sc g,ic i],.c (.clo 78 [.ptr ⟨⟨.par 0,[]⟩,0,0⟩] [])] [[.imm j,ic l,ic m]]) (rs38 r) (bs38 r)
 |.e_38b a b c d e f g i j l m,r=>Fin cx38 Tryd.f38 [.code qdY] (fr0 Tryd.f38 [pP 0,.c (ic a),.ag [ic b,.imm c,ic d,ic e,sc f,sc g,ic i],.c (.clo 70 [.ptr ⟨⟨.par 0,[]⟩,0,0⟩] [])] [[.imm j,ic l,ic m]]) (qof r) (qnf r)
 |.e_38c a b c d e f g i j l m,r=>Fin cx38 Tryd.f38 [.code qdY] (fr0 Tryd.f38 [pP 0,.c (ic a),.ag [ic b,.imm c,ic d,ic e,sc f,sc g,ic i],.c (.clo 59 [.ptr ⟨⟨.par 0,[]⟩,0,0⟩] [])] [[.imm j,ic l,ic m]]) (qnK r) (qnV r)
 |.e_38d a b c d e f g i j l m,r=>Fin cx38 Tryd.f38 [.code qdY] (fr0 Tryd.f38 [pP 0,.c (ic a),.ag [ic b,.imm c,ic d,ic e,sc f,sc g,ic i],.c (.clo 45 [.ptr ⟨⟨.par 0,[]⟩,0,0⟩] [])] [[.imm j,ic l,ic m]]) (qnD r) (qnY r)
 |.e_38e a b c d e f g i j l m,r=>Fin cx38 Tryd.f38 [.code qdY] (fr0 Tryd.f38 [pP 0,.c (ic a),.ag [ic b,.imm c,ic d,ic e,sc f,sc g,ic i],.c (.clo 36 [.ptr ⟨⟨.par 0,[]⟩,0,0⟩] [])] [[.imm j,ic l,ic m]]) (qn3 r) (qn8 r)
abbrev E22 (a:Rs)(b c:Int)(r:zY):Prop:=Ev Tryd.prog noHand 22 [pP 0] [[.imm a,ic b,ic c]] (qmv r) (bx22 r)
theorem qdN {a:Rs}{b c:Int}{r:zY}(h:P22 (.e_22 a b c) (.inl r)):E22 a b c r:=evF h
abbrev E36 (a:Rs)(b c:Int)(r:qab):Prop:=Ev Tryd.prog noHand 36 [pP 0] [[.imm a,ic b,ic c]] (qlO r) (bx36 r)
theorem qjA {a:Rs}{b c:Int}{r:qab}(h:P22 (.e_36 a b c) (.inr (.inl r))):E36 a b c r:=evF h
abbrev E45 (a:Rs)(b c:Int)(r:Zq):Prop:=Ev Tryd.prog noHand 45 [pP 0] [[.imm a,ic b,ic c]] (qly r) (bx45 r)
theorem qcv {a:Rs}{b c:Int}{r:Zq}(h:P22 (.e_45 a b c) (.inr (.inr (.inl r)))):E45 a b c r:=evF h
abbrev E51 (a:Rs)(b c:Int)(r:QP):Prop:=Ev Tryd.prog noHand 51 [pP 0] [[.imm a,ic b,ic c]] (qmz r) (bx51 r)
theorem qmK {a:Rs}{b c:Int}{r:QP}(h:P22 (.e_51 a b c) (.inr (.inr (.inr (.inl r))))):E51 a b c r:=evF h
abbrev E59 (a:Rs)(b c:Int)(r:qan):Prop:=Ev Tryd.prog noHand 59 [pP 0] [[.imm a,ic b,ic c]] (qmp r) (bx59 r)
theorem qgv {a:Rs}{b c:Int}{r:qan}(h:P22 (.e_59 a b c) (.inr (.inr (.inr (.inr (.inl r)))))):E59 a b c r:=evF h
abbrev E70 (a:Rs)(b c:Int)(r:qaa):Prop:=Ev Tryd.prog noHand 70 [pP 0] [[.imm a,ic b,ic c]] (qlU r) (bx70 r)
theorem qiN {a:Rs}{b c:Int}{r:qaa}(h:P22 (.e_70 a b c) (.inr (.inr (.inr (.inr (.inr (.inl r))))))):E70 a b c r:=evF h
abbrev E78 (a:Rs)(b c:Int)(r:QJ):Prop:=Ev Tryd.prog noHand 78 [pP 0] [[.imm a,ic b,ic c]] (qma r) (bx78 r)
theorem qc8 {a:Rs}{b c:Int}{r:QJ}(h:P22 (.e_78 a b c) (.inr (.inr (.inr (.inr (.inr (.inr (.inl r)))))))):E78 a b c r:=evF h
abbrev E83 (a:Rs)(b c:Int)(r:QG):Prop:=Ev Tryd.prog noHand 83 [pP 0] [[.imm a,ic b,ic c]] (qmo r) (bx83 r)
theorem qkF {a:Rs}{b c:Int}{r:QG}(h:P22 (.e_83 a b c) (.inr (.inr (.inr (.inr (.inr (.inr (.inr (.inl r))))))))):E83 a b c r:=evF h
abbrev E87 (a:Int)(b:By)(c d e:Int)(f:Rs)(g i:Int)(r:qal):Prop:=Ev Tryd.prog noHand 87 [pP 0,.ag [ic a,sc b,ic c,ic d,ic e]] [[.imm f,ic g,ic i]] (qlA r) (bx87 r)
theorem qlN {a:Int}{b:By}{c d e:Int}{f:Rs}{g i:Int}{r:qal}(h:P22 (.e_87 a b c d e f g i) (.inr (.inr (.inr (.inr (.inr (.inr (.inr (.inr (.inl r)))))))))):E87 a b c d e f g i r:=evF h
abbrev E38 (a b:Int)(c:Rs)(d e:Int)(f g:By)(i:Int)(j:Rs)(l m:Int)(r:QL):Prop:=Ev Tryd.prog noHand 38 [pP 0,.c (ic a),.ag [ic b,.imm c,ic d,ic e,sc f,sc g,ic i],.c (.clo 78 [.ptr ⟨⟨.par 0,[]⟩,0,0⟩] [])] [[.imm j,ic l,ic m]] (qmY r) (bx38 r)
theorem qjl {a b:Int}{c:Rs}{d e:Int}{f g:By}{i:Int}{j:Rs}{l m:Int}{r:QL}(h:P22 (.e_38 a b c d e f g i j l m) (.inr (.inr (.inr (.inr (.inr (.inr (.inr (.inr (.inr (.inl r))))))))))):E38 a b c d e f g i j l m r:=evF h
abbrev E38b (a b:Int)(c:Rs)(d e:Int)(f g:By)(i:Int)(j:Rs)(l m:Int)(r:ZM):Prop:=Ev Tryd.prog noHand 38 [pP 0,.c (ic a),.ag [ic b,.imm c,ic d,ic e,sc f,sc g,ic i],.c (.clo 70 [.ptr ⟨⟨.par 0,[]⟩,0,0⟩] [])] [[.imm j,ic l,ic m]] (qkh r) (qna r)
theorem qe1 {a b:Int}{c:Rs}{d e:Int}{f g:By}{i:Int}{j:Rs}{l m:Int}{r:ZM}(h:P22 (.e_38b a b c d e f g i j l m) (.inr (.inr (.inr (.inr (.inr (.inr (.inr (.inr (.inr (.inr (.inl r)))))))))))):E38b a b c d e f g i j l m r:=evF h
abbrev E38c (a b:Int)(c:Rs)(d e:Int)(f g:By)(i:Int)(j:Rs)(l m:Int)(r:ZG):Prop:=Ev Tryd.prog noHand 38 [pP 0,.c (ic a),.ag [ic b,.imm c,ic d,ic e,sc f,sc g,ic i],.c (.clo 59 [.ptr ⟨⟨.par 0,[]⟩,0,0⟩] [])] [[.imm j,ic l,ic m]] (qj7 r) (qmM r)
theorem qkl {a b:Int}{c:Rs}{d e:Int}{f g:By}{i:Int}{j:Rs}{l m:Int}{r:ZG}(h:P22 (.e_38c a b c d e f g i j l m) (.inr (.inr (.inr (.inr (.inr (.inr (.inr (.inr (.inr (.inr (.inr (.inl r))))))))))))):E38c a b c d e f g i j l m r:=evF h
abbrev E38d (a b:Int)(c:Rs)(d e:Int)(f g:By)(i:Int)(j:Rs)(l m:Int)(r:Yf):Prop:=Ev Tryd.prog noHand 38 [pP 0,.c (ic a),.ag [ic b,.imm c,ic d,ic e,sc f,sc g,ic i],.c (.clo 45 [.ptr ⟨⟨.par 0,[]⟩,0,0⟩] [])] [[.imm j,ic l,ic m]] (qkn r) (qlF r)
theorem qfS {a b:Int}{c:Rs}{d e:Int}{f g:By}{i:Int}{j:Rs}{l m:Int}{r:Yf}(h:P22 (.e_38d a b c d e f g i j l m) (.inr (.inr (.inr (.inr (.inr (.inr (.inr (.inr (.inr (.inr (.inr (.inr (.inl r)))))))))))))):E38d a b c d e f g i j l m r:=evF h
abbrev E38e (a b:Int)(c:Rs)(d e:Int)(f g:By)(i:Int)(j:Rs)(l m:Int)(r:Yl):Prop:=Ev Tryd.prog noHand 38 [pP 0,.c (ic a),.ag [ic b,.imm c,ic d,ic e,sc f,sc g,ic i],.c (.clo 36 [.ptr ⟨⟨.par 0,[]⟩,0,0⟩] [])] [[.imm j,ic l,ic m]] (qj5 r) (qmZ r)
theorem qe6 {a b:Int}{c:Rs}{d e:Int}{f g:By}{i:Int}{j:Rs}{l m:Int}{r:Yl}(h:P22 (.e_38e a b c d e f g i j l m) (.inr (.inr (.inr (.inr (.inr (.inr (.inr (.inr (.inr (.inr (.inr (.inr (.inr r)))))))))))))):E38e a b c d e f g i j l m r:=evF h
theorem ok22:∀ k s r,itS qb k s=some r→P22 s r:=qF fun k rec ih s r h=>match s,h with
 |.e_22 ..,h=>by
  obtain⟨_,a,h⟩:=qh h;replace h:=qf h;rcases h with⟨_,rfl,h⟩|⟨_,rfl,h⟩
  · replace h:=t5 h;cases h;exact mF 1 [cA 5 (qjA (ih _ _ (qaG a)))]
  · replace h:=t10 h;exact mA 1 (ih _ _ h) 7 [cA 5 (qjA (ih _ _ (qaG a)))] 14 16370
 |.h0_22 ..,h=>by
  obtain⟨_,a,h⟩:=qh h;replace h:=QD h;obtain⟨_,_,rfl,h⟩:=h;replace h:=qa h;rcases h with⟨rfl,h⟩|⟨rfl,h⟩
  · obtain⟨_,b,h⟩:=qh h;replace h:=qf h;rcases h with⟨_,rfl,h⟩|⟨_,rfl,h⟩
    · replace h:=t5 h;cases h;exact mF 1 [cA 7 (ev37 a),cA 12 (qe6 (ih _ _ (XJ b)))]
    · replace h:=t10 h;exact mA 1 (ih _ _ h) 9 [cA 7 (ev37 a),cA 12 (qe6 (ih _ _ (XJ b)))] 14 16370
  · cases h;exact mF 1 [cA 7 (ev37 a)]
 |.h1_22 ..,h=>by
  obtain⟨_,a,h⟩:=qh h;replace h:=QD h;obtain⟨_,_,rfl,h⟩:=h;replace h:=qa h;rcases h with⟨rfl,h⟩|⟨rfl,h⟩
  · obtain⟨_,b,h⟩:=qh h;replace h:=qf h;rcases h with⟨_,rfl,h⟩|⟨_,rfl,h⟩
    · replace h:=t5 h;cases h;exact mF 1 [cA 7 (ev37 a),cA 12 (qe6 (ih _ _ (XJ b)))]
    · replace h:=t10 h;exact mA 1 (ih _ _ h) 9 [cA 7 (ev37 a),cF 12 (qe6 (ih _ _ (XJ b)))] 14 16370
  · cases h;exact mF 1 [cA 7 (ev37 a)]
 |.e_36 ..,h=>by
  obtain⟨_,a,h⟩:=qh h;replace h:=qf h;rcases h with⟨_,rfl,h⟩|⟨_,rfl,h⟩
  · replace h:=t5 h;cases h;exact mF 1 [cA 5 (qcv (ih _ _ (xg a)))]
  · replace h:=qf h;rcases h with⟨_,rfl,h⟩|⟨_,rfl,h⟩
    · replace h:=t10 h;exact mA 1 (ih _ _ h) 7 [cA 5 (qcv (ih _ _ (xg a)))] 14 16370
    · replace h:=t10 h;exact mA 1 (ih _ _ h) 7 [cA 5 (qcv (ih _ _ (xg a)))] 14 16370
 |.h0_36 ..,h=>by
  obtain⟨_,a,h⟩:=qh h;replace h:=QD h;obtain⟨_,_,rfl,h⟩:=h;replace h:=qa h;rcases h with⟨rfl,h⟩|⟨rfl,h⟩
  · obtain⟨_,b,h⟩:=qh h;replace h:=qf h;rcases h with⟨_,rfl,h⟩|⟨_,rfl,h⟩
    · replace h:=t5 h;cases h;exact mF 1 [cA 7 (ev37 a),cA 12 (qfS (ih _ _ (XG b)))]
    · replace h:=t10 h;exact mA 1 (ih _ _ h) 9 [cA 7 (ev37 a),cA 12 (qfS (ih _ _ (XG b)))] 14 16370
  · cases h;exact mF 1 [cA 7 (ev37 a)]
 |.h1_36 ..,h=>by
  obtain⟨_,a,h⟩:=qh h;replace h:=QD h;obtain⟨_,_,rfl,h⟩:=h;replace h:=qa h;rcases h with⟨rfl,h⟩|⟨rfl,h⟩
  · obtain⟨_,b,h⟩:=qh h;replace h:=qf h;rcases h with⟨_,rfl,h⟩|⟨_,rfl,h⟩
    · replace h:=t5 h;cases h;exact mF 1 [cA 7 (ev37 a),cA 12 (qfS (ih _ _ (XG b)))]
    · replace h:=t10 h;exact mA 1 (ih _ _ h) 9 [cA 7 (ev37 a),cF 12 (qfS (ih _ _ (XG b)))] 14 16370
  · cases h;exact mF 1 [cA 7 (ev37 a)]
 |.e_45 ..,h=>by
  obtain⟨_,a,h⟩:=b2 h;rcases qa h with⟨b,h⟩|⟨b,h⟩
  · obtain⟨_,c,h⟩:=qh h;replace h:=qf h;rcases h with⟨_,rfl,h⟩|⟨_,rfl,h⟩
    · replace h:=t5 h;cases h;exact mF 1 [cA 6 (ev37 a),tT 7 b,cA 9 (qmK (ih _ _ (qe3 c)))]
    · replace h:=t10 h;cases h;exact mF 1 [cA 6 (ev37 a),tT 7 b,cA 9 (qmK (ih _ _ (qe3 c)))]
  ·
   obtain⟨_,c,h⟩:=qh h;replace h:=qf h;rcases h with⟨_,rfl,h⟩|⟨_,rfl,h⟩
   · replace h:=t5 h;cases h;exact mF 1 [cA 6 (ev37 a),tF 7 b,cA 11 (ev52 c)]
   ·
    replace h:=t4 h;obtain⟨_,d,h⟩:=qh h;replace h:=qf h;rcases h with⟨_,rfl,h⟩|⟨_,rfl,h⟩
    · replace h:=t5 h;cases h;exact mF 1 [cA 6 (ev37 a),tF 7 b,cA 11 (ev52 c),cA 13 (qcv (ih _ _ (xg d)))]
    · replace h:=qf h;rcases h with⟨_,rfl,h⟩|⟨_,rfl,h⟩
      · replace h:=t10 h;cases h;exact mF 1 [cA 6 (ev37 a),tF 7 b,cA 11 (ev52 c),cA 13 (qcv (ih _ _ (xg d)))]
      · replace h:=t10 h;cases h;exact mF 1 [cA 6 (ev37 a),tF 7 b,cA 11 (ev52 c),cA 13 (qcv (ih _ _ (xg d)))]
 |.e_51 ..,h=>by
  obtain⟨_,a,h⟩:=qh h;replace h:=qf h;rcases h with⟨_,rfl,h⟩|⟨_,rfl,h⟩
  · replace h:=t5 h;cases h;exact mF 1 [cA 6 (qgv (ih _ _ (YB a)))]
  ·
   replace h:=t10 h;obtain⟨_,b,h⟩:=b2 h;rcases qa h with⟨c,h⟩|⟨c,h⟩
   · obtain⟨_,d,h⟩:=qh h;replace h:=qf h;rcases h with⟨_,rfl,h⟩|⟨_,rfl,h⟩
     · replace h:=t5 h;cases h;exact mF 1 [cA 6 (qgv (ih _ _ (YB a))),cA 8 (ev60 b),tT 10 c,cA 16 (qkl (ih _ _ (qd0 d)))]
     · replace h:=t10 h;cases h;exact mF 1 [cA 6 (qgv (ih _ _ (YB a))),cA 8 (ev60 b),tT 10 c,cA 16 (qkl (ih _ _ (qd0 d)))]
   · cases h;exact mF 1 [cA 6 (qgv (ih _ _ (YB a))),cA 8 (ev60 b),tF 10 c]
 |.e_59 ..,h=>by
  obtain⟨_,a,h⟩:=qh h;replace h:=qf h;rcases h with⟨_,rfl,h⟩|⟨_,rfl,h⟩
  · replace h:=t5 h;cases h;exact mF 1 [cA 6 (qiN (ih _ _ (qaE a)))]
  · replace h:=t10 h;exact mA 1 (ih _ _ h) 6 [cA 6 (qiN (ih _ _ (qaE a)))] 18 262130
 |.h0_59 ..,h=>by
  obtain⟨_,a,h⟩:=b2 h;rcases qa h with⟨b,h⟩|⟨b,h⟩
  · cases h;exact mF 1 [cA 8 (ev60 a),tT 10 b]
  · obtain⟨_,c,h⟩:=qh h;replace h:=qf h;rcases h with⟨_,rfl,h⟩|⟨_,rfl,h⟩
    · replace h:=t5 h;cases h;exact mF 1 [cA 8 (ev60 a),tF 10 b,cA 17 (qe1 (ih _ _ (XF c)))]
    · replace h:=t10 h;exact mA 1 (ih _ _ h) 11 [cA 8 (ev60 a),tF 10 b,cA 17 (qe1 (ih _ _ (XF c)))] 18 262130
 |.h1_59 ..,h=>by
  obtain⟨_,a,h⟩:=b2 h;rcases qa h with⟨b,h⟩|⟨b,h⟩
  · cases h;exact mF 1 [cA 8 (ev60 a),tT 10 b]
  · obtain⟨_,c,h⟩:=qh h;replace h:=qf h;rcases h with⟨_,rfl,h⟩|⟨_,rfl,h⟩
    · replace h:=t5 h;cases h;exact mF 1 [cA 8 (ev60 a),tF 10 b,cA 17 (qe1 (ih _ _ (XF c)))]
    · replace h:=t10 h;exact mA 1 (ih _ _ h) 11 [cA 8 (ev60 a),tF 10 b,cF 17 (qe1 (ih _ _ (XF c)))] 18 262130
 |.e_70 ..,h=>by
  obtain⟨_,a,h⟩:=qh h;replace h:=qf h;rcases h with⟨_,rfl,h⟩|⟨_,rfl,h⟩
  · replace h:=t5 h;cases h;exact mF 1 [cA 6 (qc8 (ih _ _ (xq a)))]
  · replace h:=qf h;rcases h with⟨_,rfl,h⟩|⟨_,rfl,h⟩
    · replace h:=t10 h;exact mA 1 (ih _ _ h) 6 [cA 6 (qc8 (ih _ _ (xq a)))] 18 262130
    · replace h:=t10 h;exact mA 1 (ih _ _ h) 6 [cA 6 (qc8 (ih _ _ (xq a)))] 18 262130
 |.h0_70 ..,h=>by
  obtain⟨_,a,h⟩:=b2 h;rcases qa h with⟨b,h⟩|⟨b,h⟩
  · cases h;exact mF 1 [cA 8 (ev60 a),tT 10 b]
  · obtain⟨_,c,h⟩:=qh h;replace h:=qf h;rcases h with⟨_,rfl,h⟩|⟨_,rfl,h⟩
    · replace h:=t5 h;cases h;exact mF 1 [cA 8 (ev60 a),tF 10 b,cA 17 (qjl (ih _ _ (qaD c)))]
    · replace h:=t10 h;exact mA 1 (ih _ _ h) 11 [cA 8 (ev60 a),tF 10 b,cF 17 (qjl (ih _ _ (qaD c)))] 18 262130
 |.h1_70 ..,h=>by
  obtain⟨_,a,h⟩:=b2 h;rcases qa h with⟨b,h⟩|⟨b,h⟩
  · cases h;exact mF 1 [cA 8 (ev60 a),tT 10 b]
  · obtain⟨_,c,h⟩:=qh h;replace h:=qf h;rcases h with⟨_,rfl,h⟩|⟨_,rfl,h⟩
    · replace h:=t5 h;cases h;exact mF 1 [cA 8 (ev60 a),tF 10 b,cA 17 (qjl (ih _ _ (qaD c)))]
    · replace h:=t10 h;exact mA 1 (ih _ _ h) 11 [cA 8 (ev60 a),tF 10 b,cA 17 (qjl (ih _ _ (qaD c)))] 18 262130
 |.e_78 ..,h=>by
  obtain⟨_,a,h⟩:=b2 h;rcases qa h with⟨b,h⟩|⟨b,h⟩
  ·
   obtain⟨_,c,h⟩:=qh h;replace h:=qf h;rcases h with⟨_,rfl,h⟩|⟨_,rfl,h⟩
   · replace h:=t5 h;cases h;exact mF 1 [cA 6 (ev37 a),tT 7 b,cA 9 (qkF (ih _ _ (qcm c)))]
   · replace h:=qf h;rcases h with⟨_,rfl,h⟩|⟨_,rfl,h⟩
     · replace h:=t10 h;exact mA 1 (ih _ _ h) 8 [cA 6 (ev37 a),tT 7 b,cA 9 (qkF (ih _ _ (qcm c)))] 25 33554427
     · replace h:=t10 h;exact mA 1 (ih _ _ h) 8 [cA 6 (ev37 a),tT 7 b,cA 9 (qkF (ih _ _ (qcm c)))] 25 33554427
  ·
   obtain⟨_,c,h⟩:=qh h;replace h:=qf h;rcases h with⟨_,rfl,h⟩|⟨_,rfl,h⟩
   · replace h:=t5 h;cases h;exact mF 1 [cA 6 (ev37 a),tF 7 b,cA 11 (ev52 c)]
   ·
    replace h:=t4 h;obtain⟨_,d,h⟩:=qh h;replace h:=qf h;rcases h with⟨_,rfl,h⟩|⟨_,rfl,h⟩
    · replace h:=t5 h;cases h;exact mF 1 [cA 6 (ev37 a),tF 7 b,cA 11 (ev52 c),cA 13 (qc8 (ih _ _ (xq d)))]
    · replace h:=qf h;rcases h with⟨_,rfl,h⟩|⟨_,rfl,h⟩
      · replace h:=t10 h;exact mG 1 (ih _ _ h) 15 [cA 6 (ev37 a),tF 7 b,cA 11 (ev52 c),cA 13 (qc8 (ih _ _ (xq d)))] 25 33554427 [4] []
      · replace h:=t10 h;exact mG 1 (ih _ _ h) 15 [cA 6 (ev37 a),tF 7 b,cA 11 (ev52 c),cA 13 (qc8 (ih _ _ (xq d)))] 25 33554427 [4] []
 |.h0_78 ..,h=>by cases h;exact mF 1 []
 |.h1_78 ..,h=>by cases h;exact mF 1 []
 |.h2_78 ..,h=>by cases h;exact mF 1 []
 |.e_83 ..,h=>by
  obtain⟨_,a,h⟩:=b6 h;rcases qa h with⟨b,h⟩|⟨b,h⟩
  · exact mG 1 (ih _ _ h) 15 [cA 8 (ev46 a),tT 12 b] 95 39614081257132168796771975163 [3] [(⟨⟨.loc 2,[]⟩,0,1⟩,none)]
  ·
   rcases qa h with⟨c,h⟩|⟨c,h⟩
   · exact mG 1 (ih _ _ h) 18 [cA 8 (ev46 a),tF 12 b,tT 26 c] 95 39614081257132168796771975163 [3] [(⟨⟨.loc 2,[]⟩,0,1⟩,none)]
   ·
    rcases qa h with⟨d,h⟩|⟨d,h⟩
    · exact mG 1 (ih _ _ h) 21 [cA 8 (ev46 a),tF 12 b,tF 26 c,tT 42 d] 95 39614081257132168796771975163 [3] [(⟨⟨.loc 2,[]⟩,0,1⟩,none)]
    ·
     rcases qa h with⟨e,h⟩|⟨e,h⟩
     · obtain⟨_,f,h⟩:=qh h;replace h:=qf h;rcases h with⟨_,rfl,h⟩|⟨_,rfl,h⟩
       · replace h:=t4 h;cases h;exact mF 1 [cA 8 (ev46 a),tF 12 b,tF 26 c,tF 42 d,tT 56 e,cA 59 (ev85 f)]
       · replace h:=t4 h;exact mG 1 (ih _ _ h) 24 [cA 8 (ev46 a),tF 12 b,tF 26 c,tF 42 d,tT 56 e,cA 59 (ev85 f)] 95 39614081257132168796771975163 [3] [(⟨⟨.loc 2,[]⟩,0,1⟩,none)]
     ·
      rcases qa h with⟨g,h⟩|⟨g,h⟩
      ·
       rcases qa h with⟨f,h⟩|⟨f,h⟩
       ·
        obtain⟨_,i,h⟩:=qh h;replace h:=qf h;rcases h with⟨_,rfl,h⟩|⟨_,rfl,h⟩
        · replace h:=t5 h;cases h;exact mF 1 [cA 8 (ev46 a),tF 12 b,tF 26 c,tF 42 d,tF 56 e,tT 68 g,tT 71 f,cA 73 (ev52 i)]
        · replace h:=t4 h;obtain⟨_,j,h⟩:=qh h;replace h:=qf h;rcases h with⟨_,rfl,h⟩|⟨_,rfl,h⟩
          · replace h:=t5 h;cases h;exact mF 1 [cA 8 (ev46 a),tF 12 b,tF 26 c,tF 42 d,tF 56 e,tT 68 g,tT 71 f,cA 73 (ev52 i),cA 75 (qdN (ih _ _ (xO j)))]
          · replace h:=t10 h;obtain⟨_,l,h⟩:=qh h;replace h:=qf h;rcases h with⟨_,rfl,h⟩|⟨_,rfl,h⟩
            · replace h:=t4 h;cases h;exact mF 1 [cA 8 (ev46 a),tF 12 b,tF 26 c,tF 42 d,tF 56 e,tT 68 g,tT 71 f,cA 73 (ev52 i),cA 75 (qdN (ih _ _ (xO j))),cA 77 (ev86 l)]
            · replace h:=t2 h;exact mG 1 (ih _ _ h) 36 [cA 8 (ev46 a),tF 12 b,tF 26 c,tF 42 d,tF 56 e,tT 68 g,tT 71 f,cA 73 (ev52 i),cA 75 (qdN (ih _ _ (xO j))),cA 77 (ev86 l)] 95 39614081257132168796771975163 [6,3] []
       · exact mA 1 (ih _ _ h) 28 [cA 8 (ev46 a),tF 12 b,tF 26 c,tF 42 d,tF 56 e,tT 68 g,tF 71 f] 95 39614081257132168796771975155
      · rcases qa h with⟨f,h⟩|⟨f,h⟩
        · obtain⟨_,i,h⟩:=qh h;replace h:=qf h;rcases h with⟨_,rfl,h⟩|⟨_,rfl,h⟩
          · replace h:=t5 h;cases h;exact mF 1 [cA 8 (ev46 a),tF 12 b,tF 26 c,tF 42 d,tF 56 e,tF 68 g,tT 87 f,cA 90 (qlN (ih _ _ (qfN i)))]
          · replace h:=t10 h;exact mG 1 (ih _ _ h) 28 [cA 8 (ev46 a),tF 12 b,tF 26 c,tF 42 d,tF 56 e,tF 68 g,tT 87 f,cA 90 (qlN (ih _ _ (qfN i)))] 95 39614081257132168796771975163 [3] []
        · exact mA 1 (ih _ _ h) 28 [cA 8 (ev46 a),tF 12 b,tF 26 c,tF 42 d,tF 56 e,tF 68 g,tF 87 f] 95 39614081257132168796771975155
 |.h0_83 ..,h=>by cases h;exact mF 1 []
 |.h1_83 ..,h=>by cases h;exact mF 1 []
 |.h2_83 ..,h=>by cases h;exact mF 1 []
 |.h3_83 ..,h=>by cases h;exact mF 1 []
 |.h4_83 ..,h=>by cases h;exact mF 1 []
 |.h5_83 ..,h=>by cases h;exact mF 1 []
 |.h6_83 ..,h=>by cases h;exact mF 1 []
 |.e_87 ..,h=>by
  rcases qa h with⟨a,h⟩|⟨a,h⟩
  · exact mA 1 (ih _ _ h) 11 [tT 11 a] 57 144115188075854310
  · exact mA 1 (ih _ _ h) 11 [tF 11 a] 57 144115188075854310
 |.h0_87 ..,h=>by
  replace h:=qa h;rcases h with⟨rfl,h⟩|⟨rfl,h⟩
  · rcases qa h with⟨a,h⟩|⟨a,h⟩
    · exact mA 1 (ih _ _ h) 10 [tT 22 a] 57 144115188075855815
    · exact mA 1 (ih _ _ h) 10 [tF 22 a] 57 144115188075855815
  · rcases qa h with⟨a,h⟩|⟨a,h⟩
    · exact mA 1 (ih _ _ h) 6 [tT 28 a] 57 144115187941638118
    · exact mA 1 (ih _ _ h) 6 [tF 28 a] 57 144115187941638118
 |.h1_87 ..,h=>by exact mG 1 (ih _ _ h) 2 [] 57 144115188075855855 [3] [(⟨⟨.loc 4,[]⟩,0,1⟩,some 7)]
 |.h2_87 ..,h=>by
  replace h:=qa h;rcases h with⟨rfl,h⟩|⟨rfl,h⟩
  ·
   obtain⟨_,a,h⟩:=qh h;replace h:=qf h;rcases h with⟨_,rfl,h⟩|⟨_,rfl,h⟩
   · replace h:=t5 h;cases h;exact mF 1 [cA 31 (ev52 a)]
   ·
    replace h:=t4 h;obtain⟨_,b,h⟩:=qh h;replace h:=qf h;rcases h with⟨_,rfl,h⟩|⟨_,rfl,h⟩
    · replace h:=t4 h;cases h;exact mF 1 [cA 31 (ev52 a),cA 33 (ev86 b)]
    ·
     replace h:=t2 h;obtain⟨_,c,h⟩:=qh h;replace h:=qf h;rcases h with⟨_,rfl,h⟩|⟨_,rfl,h⟩
     · replace h:=t5 h;cases h;exact mF 1 [cA 31 (ev52 a),cA 33 (ev86 b),cA 35 (qdN (ih _ _ (xO c)))]
     · replace h:=t10 h;obtain⟨_,d,h⟩:=qh h;replace h:=qf h;rcases h with⟨_,rfl,h⟩|⟨_,rfl,h⟩
       · replace h:=t4 h;cases h;exact mF 1 [cA 31 (ev52 a),cA 33 (ev86 b),cA 35 (qdN (ih _ _ (xO c))),cA 37 (ev86 d)]
       · replace h:=t2 h;rcases qa h with⟨e,h⟩|⟨e,h⟩
         · exact mG 1 (ih _ _ h) 20 [cA 31 (ev52 a),cA 33 (ev86 b),cA 35 (qdN (ih _ _ (xO c))),cA 37 (ev86 d),tT 47 e] 57 144115188075855855 [6,3] []
         · exact mG 1 (ih _ _ h) 20 [cA 31 (ev52 a),cA 33 (ev86 b),cA 35 (qdN (ih _ _ (xO c))),cA 37 (ev86 d),tF 47 e] 57 144115188075855855 [6,3] []
  · obtain⟨_,a,h⟩:=qh h;replace h:=qf h;rcases h with⟨_,rfl,h⟩|⟨_,rfl,h⟩
    · replace h:=t4 h;cases h;exact mF 1 [cA 56 (ev91 a)]
    · replace h:=t8 h;exact mG 1 (ih _ _ h) 5 [cA 56 (ev91 a)] 57 144115188075855855 [3] [(⟨⟨.loc 4,[]⟩,0,1⟩,some 7)]
 |.h3_87 ..,h=>by cases h;exact mF 1 []
 |.h4_87 ..,h=>by cases h;exact mF 1 []
 |.h5_87 ..,h=>by cases h;exact mF 1 []
 |.e_38 ..,h=>by
  obtain⟨_,a,h⟩:=b6 h;obtain⟨_,b,h⟩:=qh h;replace h:=qf h;rcases h with⟨_,rfl,h⟩|⟨_,rfl,h⟩
  · replace h:=t5 h;cases h;exact mF 1 [cA 11 (ev46 a),aP 3,cA 23 (qc8 (ih _ _ (xq b)))]
  · replace h:=qf h;rcases h with⟨_,rfl,h⟩|⟨_,rfl,h⟩
    · replace h:=t10 h;cases h;exact mF 1 [cA 11 (ev46 a),cA 23 (qc8 (ih _ _ (xq b)))]
    · replace h:=t10 h;cases h;exact mF 1 [cA 11 (ev46 a),cA 23 (qc8 (ih _ _ (xq b)))]
 |.e_38b ..,h=>by
  obtain⟨_,a,h⟩:=b6 h;obtain⟨_,b,h⟩:=qh h;replace h:=qf h;rcases h with⟨_,rfl,h⟩|⟨_,rfl,h⟩
  · replace h:=t5 h;cases h;exact mF 1 [cA 11 (ev46 a),aP 3,cA 23 (qiN (ih _ _ (qaE b)))]
  · replace h:=t10 h;cases h;exact mF 1 [cA 11 (ev46 a),cA 23 (qiN (ih _ _ (qaE b)))]
 |.e_38c ..,h=>by
  obtain⟨_,a,h⟩:=b6 h;obtain⟨_,b,h⟩:=qh h;replace h:=qf h;rcases h with⟨_,rfl,h⟩|⟨_,rfl,h⟩
  · replace h:=t5 h;cases h;exact mF 1 [cA 11 (ev46 a),aP 3,cA 23 (qgv (ih _ _ (YB b)))]
  · replace h:=t10 h;cases h;exact mF 1 [cA 11 (ev46 a),cA 23 (qgv (ih _ _ (YB b)))]
 |.e_38d ..,h=>by
  obtain⟨_,a,h⟩:=b6 h;obtain⟨_,b,h⟩:=qh h;replace h:=qf h;rcases h with⟨_,rfl,h⟩|⟨_,rfl,h⟩
  · replace h:=t5 h;cases h;exact mF 1 [cA 11 (ev46 a),aP 3,cA 23 (qcv (ih _ _ (xg b)))]
  · replace h:=qf h;rcases h with⟨_,rfl,h⟩|⟨_,rfl,h⟩
    · replace h:=t10 h;cases h;exact mF 1 [cA 11 (ev46 a),cA 23 (qcv (ih _ _ (xg b)))]
    · replace h:=t10 h;cases h;exact mF 1 [cA 11 (ev46 a),cA 23 (qcv (ih _ _ (xg b)))]
 |.e_38e ..,h=>by
  obtain⟨_,a,h⟩:=b6 h;obtain⟨_,b,h⟩:=qh h;replace h:=qf h;rcases h with⟨_,rfl,h⟩|⟨_,rfl,h⟩
  · replace h:=t5 h;cases h;exact mF 1 [cA 11 (ev46 a),aP 3,cA 23 (qjA (ih _ _ (qaG b)))]
  · replace h:=t10 h;cases h;exact mF 1 [cA 11 (ev46 a),cA 23 (qjA (ih _ _ (qaG b)))]
theorem ev22 {k:Nat}{a:Rs}{b c:Int}{r:zY}(h:g22 k a b c=some r):E22 a b c r:=qdN (ok22 _ _ _ (xO h))
inductive S16 where
 |e (a:Rs)(b:Int)
 |h0 (a:Rs)(b:Int)(c:Bool)(d e f g i j:Int)(l m:By)(n:Int)
 |h1 (a b c d:Int)(e:Rs)(f g:Int)(i j:By)(l:Int)
 |h2 (a b c d:Int)(e:Rs)(f g:Int)(i j:By)(l:Int)
abbrev R16:=(Int×Int×Int×By×By×Int×Int×Int×Int)⊕(Int×Rs×Int×Int×By×By×Int×Int×Int×Int)
def qhP:R16→ARes
 |(.inl (a,b,c,d,e,f,g,i,j))=>.ret ⟨.tup [true,false,false,false],[[ic a,.nil,ic b,ic c,sc d,sc e,ic f],[ic g],[ic i],[ic j]]⟩
 |(.inr (a,b,c,d,e,f,g,i,j,l))=>.ret ⟨.tup [true,false,false,false],[[ic a,.imm b,ic c,ic d,sc e,sc f,ic g],[ic i],[ic j],[ic l]]⟩
def bx16:R16→List (List Cell)
 |(.inl (_,_,_,_,_,_,_,_,_))=>[]
 |(.inr (_,_,_,_,_,_,_,_,_,_))=>[]
noncomputable def ZT (k:Nat)(rec:S16→Option R16):S16→Option R16
 |.e a b=>
  bif decide (b<0)then
   rec (.h0 a b true 0 0 0 0 0 0 (strB []) (strB []) 0)
  else
   rec (.h0 a b (decide (b≥(a.length:Int))) 0 0 0 0 0 0 (strB []) (strB []) 0)
 |.h0 a b c ..=>
  bif c then
   rec (.h1 1 0 0 0 [] 0 0 (strB []) (strB []) 0)
  else
   (g22 k a b 0).bind fun d=>
   altC d (fun e=>
     tup5 e fun f g _ i _=>
     some (.inl (0,0,0,strB [],strB [],0,0,f,g))) (fun e=>
     ql e fun j l m n o p q _ i _=>
     rec (.h2 0 0 i j l m n o p q))
 |.h1 a b c d e f g i j l=>some (.inr (d,e,f,g,i,j,l,c,b,a))
 |.h2 a b c d e f g i j l=>some (.inr (d,e,f,g,i,j,l,c,b,a))
noncomputable def g16 (k:Nat)(a:Rs)(b:Int):Option R16:=itS ZT k (.e a b)
noncomputable def P16:S16→R16→Prop
 |.e a b,r=>FinD cx16 Tryd.f16 (DOf cx16.P none 0) [.code QZ] (fr0 Tryd.f16 [.c (.imm a),.c (ic b)] []) (qhP r) (bx16 r)
 |.h0 a b c d e f g i j l m n,r=>FinD cx16 Tryd.f16 (DOf cx16.P none 0) (kAt QZ [1,0,1,2] []) ⟨[.c (.imm a),.c (ic b),.deadv,.deadv,pL 4,pL 5,pL 6,pL 7]++rep 8 .deadv++[.c (bc c)]++rep 13 .deadv,[(.loc 7,[ic d]),(.loc 6,[ic e]),(.loc 5,[ic f]),(.loc 4,[ic g,.nil,ic i,ic j,sc l,sc m,ic n])]⟩ (qhP r) (bx16 r)
 |.h1 a b c d e f g i j l,r=>FinD cx16 Tryd.f16 (DOf cx16.P none 0) (kAt QZ [1,0,1,0,1,2] []) ⟨rep 4 .deadv++[pL 4,pL 5,pL 6,pL 7]++rep 22 .deadv,[(.loc 7,[ic a]),(.loc 6,[ic b]),(.loc 5,[ic c]),(.loc 4,[ic d,.imm e,ic f,ic g,sc i,sc j,ic l])]⟩ (qhP r) (bx16 r)
 |.h2 a b c d e f g i j l,r=>FinD cx16 Tryd.f16 (DOf cx16.P (some 18) 21) (kAt QZ [1,1,1,1,1,1,2] []) ⟨rep 4 .deadv++[pL 4,pL 5,pL 6,pL 7]++rep 10 .deadv++[.c (.clo 21 [] [.ptr ⟨⟨.loc 4,[]⟩,0,0⟩,.ptr ⟨⟨.loc 5,[]⟩,0,0⟩,.ptr ⟨⟨.loc 6,[]⟩,0,0⟩,.ptr ⟨⟨.loc 7,[]⟩,0,0⟩])]++rep 11 .deadv,[(.loc 7,[ic a]),(.loc 6,[ic b]),(.loc 5,[ic c]),(.loc 4,[ic d,.imm e,ic f,ic g,sc i,sc j,ic l])]⟩ (qhP r) (bx16 r)
abbrev E16 (a:Rs)(b:Int)(r:R16):Prop:=Ev Tryd.prog noHand 16 [.c (.imm a),.c (ic b)] [] (qhP r) (bx16 r)
theorem qnx {a:Rs}{b:Int}{r:R16}(h:P16 (.e a b) r):E16 a b r:=evD h
theorem qlM {b0_0:Int}{b0_2:Int}{b0_3:Int}{b0_4:ByteArray}{b0_5:ByteArray}{b0_6:Int}{b1_0:Int}{b2_0:Int}{b3_0:Int}{pv_i00:Int}{pv_i01:Int}:EvD Tryd.prog (.panicking [{ v:=.iface 58 (.agg #[.int .i64 pv_i00,.int .i64 pv_i01]),recovered:=false }]) (.panicking [{ v:=.iface 58 (.agg #[.int .i64 pv_i00,.int .i64 pv_i01]),recovered:=true }]) 21 [pP 0,pP 1,pP 2,pP 3] [[ic b0_0,.nil,ic b0_2,ic b0_3,sc b0_4,sc b0_5,ic b0_6],[ic b1_0],[ic b2_0],[ic b3_0]] (.ret .undef) [[ic 0,.nil,ic 0,ic 0,sc (strB []),sc (strB []),ic 0],[ic 0],[ic pv_i00],[ic pv_i01]]:=qcj (fn:=Tryd.f21) (body:=qfp) (cx:=cx21) (nb:=4) (n:=2000) (val:=.iface 58 (.agg #[.int .i64 pv_i00,.int .i64 pv_i01])) (ad1:=[]) (ad2:=[]) (ps:=[]) (by kernel_rfl) (by kernel_rfl) rfl hmix rfl (.inl ⟨rfl,rfl⟩) (by kernel_rfl) trivial
theorem qmB {b0_0:Int}{b0_1:Rs}{b0_2:Int}{b0_3:Int}{b0_4:ByteArray}{b0_5:ByteArray}{b0_6:Int}{b1_0:Int}{b2_0:Int}{b3_0:Int}:EvD Tryd.prog .returning .returning 21 [pP 0,pP 1,pP 2,pP 3] [[ic b0_0,.imm b0_1,ic b0_2,ic b0_3,sc b0_4,sc b0_5,ic b0_6],[ic b1_0],[ic b2_0],[ic b3_0]] (.ret .undef) [[ic b0_0,.imm b0_1,ic b0_2,ic b0_3,sc b0_4,sc b0_5,ic b0_6],[ic b1_0],[ic b2_0],[ic b3_0]]:=qcj (fn:=Tryd.f21) (body:=qfp) (cx:=cx21) (nb:=4) (n:=2000) (val:=.nilIface) (ad1:=[]) (ad2:=[]) (ps:=[]) (by kernel_rfl) (by kernel_rfl) rfl hmix rfl (.inr ⟨rfl,rfl,rfl⟩) (by kernel_rfl) trivial
theorem ok16:∀ k s r,itS ZT k s=some r→P16 s r:=qF fun k rec ih s r h=>match s,h with
 |.e ..,h=>by
  rcases qa h with⟨a,h⟩|⟨a,h⟩
  · exact Ya (t:=none) (f:=0) hmix (ih _ _ h) (n:=5) (ad:=[(some 10,.test true)]) (ps:=[_]) (m:=bm 30 1073676044) (ls:=[]) (cs:=[]) (by kernel_rfl) ⟨a,trivial⟩
  · exact Ya (t:=none) (f:=0) hmix (ih _ _ h) (n:=5) (ad:=[(some 10,.test false)]) (ps:=[_]) (m:=bm 30 1073676044) (ls:=[]) (cs:=[]) (by kernel_rfl) ⟨a,trivial⟩
 |.h0 a b _ c d e g i j l o p,h=>by
  replace h:=qa h;rcases h with⟨rfl,h⟩|⟨rfl,h⟩
  · exact Ya (t:=none) (f:=0) hmix (ih _ _ h) (n:=3) (ad:=[]) (ps:=[]) (m:=bm 30 1073741583) (ls:=[]) (cs:=[(⟨⟨.loc 4,[]⟩,0,1⟩,none)]) (by kernel_rfl) trivial
  · obtain⟨_,q,h⟩:=qh h;replace h:=qf h;rcases h with⟨_,rfl,h⟩|⟨_,rfl,h⟩
    · replace h:=qk6 h;obtain⟨u,v,w,x,y,rfl,h⟩:=h;rw[← aR h];exact Ya (t:=none) (f:=0) hmix (qg9 (Q:=fun G0 w0=>bodyPostD cx16.P Tryd.f16 (Went G0 w0 _ _)) (K0:=(kAt QZ [1,1,0,2] [])) (F:=⟨[.c (.imm a),.c (ic b),.deadv,.deadv,pL 4,pL 5,pL 6,pL 7]++rep 8 .deadv++[.c (bc false)]++rep 13 .deadv,[(.loc 7,[ic c]),(.loc 6,[ic d]),(.loc 5,[ic e]),(.loc 4,[ic g,.nil,ic i,ic j,sc l,sc o,ic p])]⟩) (k:=18) (f:=21) (K1:=(kAt QZ [1,1,0,3] [])) (F1:=⟨[.c (.imm a),.c (ic b),.deadv,.deadv,pL 4,pL 5,pL 6,pL 7]++rep 8 .deadv++[.c (bc false),.deadv,.c (.clo 21 [] [.ptr ⟨⟨.loc 4,[]⟩,0,0⟩,.ptr ⟨⟨.loc 5,[]⟩,0,0⟩,.ptr ⟨⟨.loc 6,[]⟩,0,0⟩,.ptr ⟨⟨.loc 7,[]⟩,0,0⟩])]++rep 11 .deadv,[(.loc 7,[ic c]),(.loc 6,[ic d]),(.loc 5,[ic e]),(.loc 4,[ic g,.nil,ic i,ic j,sc l,sc o,ic p])]⟩) (ad:=[]) (ps:=[]) ⟨Tryd.f21,by kernel_rfl,by kernel_rfl,by kernel_rfl⟩ (Yz (nb:=0) (t:=some 18) (f:=21) hmix (n:=2000) (ad:=[(some 24,.call (.panic (.iface 58 (.agg #[.int .i64 u,.int .i64 v]))) [[.imm w,ic x,ic y]] false)]) (ps:=[_,_]) (bx':=[[ic 0,.nil,ic 0,ic 0,sc (strB []),sc (strB []),ic 0],[ic 0],[ic u],[ic v]]) (by kernel_rfl) ⟨(ev22 q),(qlM (b0_0:=g) (b0_2:=i) (b0_3:=j) (b0_4:=l) (b0_5:=o) (b0_6:=p) (b1_0:=e) (b2_0:=d) (b3_0:=c) (pv_i00:=u) (pv_i01:=v)),trivial⟩) (by kernel_rfl) trivial) (n:=3) (ad:=[]) (ps:=[]) (m:=bm 30 0) (ls:=[]) (cs:=[]) (by kernel_rfl) trivial
    · replace h:=qjf h;obtain⟨z,a1,b1,c1,d1,e1,f1,w,x,y,rfl,h⟩:=h;exact Ya (t:=none) (f:=0) hmix (qg9 (Q:=fun G0 w0=>bodyPostD cx16.P Tryd.f16 (Went G0 w0 _ _)) (K0:=(kAt QZ [1,1,0,2] [])) (F:=⟨[.c (.imm a),.c (ic b),.deadv,.deadv,pL 4,pL 5,pL 6,pL 7]++rep 8 .deadv++[.c (bc false)]++rep 13 .deadv,[(.loc 7,[ic c]),(.loc 6,[ic d]),(.loc 5,[ic e]),(.loc 4,[ic g,.nil,ic i,ic j,sc l,sc o,ic p])]⟩) (k:=18) (f:=21) (K1:=(kAt QZ [1,1,0,3] [])) (F1:=⟨[.c (.imm a),.c (ic b),.deadv,.deadv,pL 4,pL 5,pL 6,pL 7]++rep 8 .deadv++[.c (bc false),.deadv,.c (.clo 21 [] [.ptr ⟨⟨.loc 4,[]⟩,0,0⟩,.ptr ⟨⟨.loc 5,[]⟩,0,0⟩,.ptr ⟨⟨.loc 6,[]⟩,0,0⟩,.ptr ⟨⟨.loc 7,[]⟩,0,0⟩])]++rep 11 .deadv,[(.loc 7,[ic c]),(.loc 6,[ic d]),(.loc 5,[ic e]),(.loc 4,[ic g,.nil,ic i,ic j,sc l,sc o,ic p])]⟩) (ad:=[]) (ps:=[]) ⟨Tryd.f21,by kernel_rfl,by kernel_rfl,by kernel_rfl⟩ (Ya (t:=some 18) (f:=21) hmix (ih _ _ h) (n:=6) (ad:=[(some 24,.call (.ret (.ag [ic z,.imm a1,ic b1,ic c1,sc d1,sc e1,ic f1])) [[.imm w,ic x,ic y]] false)]) (ps:=[_]) (m:=bm 30 1073479439) (ls:=[22]) (cs:=[]) (by kernel_rfl) ⟨(ev22 q),trivial⟩) (by kernel_rfl) trivial) (n:=3) (ad:=[]) (ps:=[]) (m:=bm 30 0) (ls:=[]) (cs:=[]) (by kernel_rfl) trivial
 |.h1 ..,h=>by rw[← aR h];exact Yz (nb:=0) (t:=none) (f:=0) hmix (n:=2000) (ad:=[]) (ps:=[]) (bx':=[]) (by kernel_rfl) trivial
 |.h2 a b c d e g i j l m,h=>by rw[← aR h];exact Yz (nb:=0) (t:=some 18) (f:=21) hmix (n:=2000) (ad:=[]) (ps:=[_]) (bx':=[[ic d,.imm e,ic g,ic i,sc j,sc l,ic m],[ic c],[ic b],[ic a]]) (by kernel_rfl) ⟨(qmB (b0_0:=d) (b0_1:=e) (b0_2:=g) (b0_3:=i) (b0_4:=j) (b0_5:=l) (b0_6:=m) (b1_0:=c) (b2_0:=b) (b3_0:=a)),trivial⟩
theorem ev16 {k:Nat}{a:Rs}{b:Int}{r:R16}(h:g16 k a b=some r):E16 a b r:=qnx (ok16 _ _ _ h)
inductive S10 where
 |e (a:Int)(b:Rs)(c d:Int)(e f:By)(g:Int)
 |h0 (a:Int)(b:Rs)(c d:Int)
abbrev R10:=Int
def qkD:R10→ARes
 |r=>.ret (.c (ic r))
def bx10:R10→List (List Cell)
 |_=>[]
noncomputable def qaJ (k:Nat)(rec:S10→Option R10):S10→Option R10
 |.e _ a ..=>rec (.h0 1 a (a.length:Int) 0)
 |.h0 a b c d=>
  bif decide (d<c)then
   ixR b d fun e=>
   qE e fun f g i j l m n=>
   (rec (.e f g i j l m n)).bind fun o=>
   rec (.h0 (IntKind.i64.wrap (a+o)) b c (IntKind.i64.wrap (d+1)))
  else
   some a
noncomputable def g10 (k:Nat)(a:Int)(b:Rs)(c d:Int)(e f:By)(g:Int):Option R10:=itS qaJ k (.e a b c d e f g)
noncomputable def P10:S10→R10→Prop
 |.e a b c d e f g,r=>Fin cx10 Tryd.f10 [.code qjO] (fr0 Tryd.f10 [.ag [ic a,.imm b,ic c,ic d,sc e,sc f,ic g]] []) (qkD r) (bx10 r)
 |.h0 a b c d,r=>Fin cx10 Tryd.f10 (kAt qjO [1,1,0,1,0,4] []) ⟨rep 3 .deadv++[.c (ic a)]++rep 3 .deadv++[.c (.imm b),.c (ic c),.c (ic d)]++rep 9 .deadv,[]⟩ (qkD r) (bx10 r)
abbrev E10 (a:Int)(b:Rs)(c d:Int)(e f:By)(g:Int)(r:R10):Prop:=Ev Tryd.prog noHand 10 [.ag [ic a,.imm b,ic c,ic d,sc e,sc f,ic g]] [] (qkD r) (bx10 r)
theorem qlH {a:Int}{b:Rs}{c d:Int}{e f:By}{g:Int}{r:R10}(h:P10 (.e a b c d e f g) r):E10 a b c d e f g r:=evF h
theorem ok10:∀ k s r,itS qaJ k s=some r→P10 s r:=qF fun k rec ih s r h=>match s,h with
 |.e ..,h=>by exact mG 0 (ih _ _ h) 9 [] 19 523383 [1] []
 |.h0 ..,h=>by
  rcases qa h with⟨a,h⟩|⟨a,h⟩
  · obtain⟨_,b,h⟩:=YJ h;replace h:=zB h;obtain⟨_,_,_,_,_,_,_,rfl,h⟩:=h;obtain⟨_,c,h⟩:=qh h;exact mG 0 (ih _ _ h) 13 [tT 10 a,rA 11 b,cA 15 (qlH (ih _ _ c))] 19 523383 [5] []
  · cases h;exact mF 0 [tF 10 a]
theorem ev10 {k:Nat}{a:Int}{b:Rs}{c d:Int}{e f:By}{g:Int}{r:R10}(h:g10 k a b c d e f g=some r):E10 a b c d e f g r:=qlH (ok10 _ _ _ h)
end Ab
end Go.Proofs.YtfekohpjaafnhaaDoor
