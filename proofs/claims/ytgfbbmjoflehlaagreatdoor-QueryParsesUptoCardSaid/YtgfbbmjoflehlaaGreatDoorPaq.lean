/-
  The parser as a plain function of the tokens.
-/
import Derived.Test.YtgfbbmjoflehlaaGreatDoorEx2q
set_option linter.all false
namespace Go.Proofs.YtgfbbmjoflehlaaGreatDoor
namespace Ab
structure Tok where
 kind:Int
 text:ByteArray
 n:Int
 scale:Int
 pos:Int
def tkR (t:Tok):List Cell:=[ic t.kind,sc t.text,ic t.n,ic t.scale,ic t.pos]
def rwT (L:List Tok):Rs:=L.map tkR
def tk0:Tok:=⟨0,strB [],0,0,0⟩
def tkA (L:List Tok)(i:Nat):Tok:=(L[i]?).getD tk0
def isW (t:Tok)(s:ByteArray):Bool:=bif t.kind==1 then t.text.toList==s.toList else bif t.kind==6 then t.text.toList==s.toList else false
def qi9:List ByteArray->Int->ByteArray->Int
 |[],_,_=>0
 |s::l,f,x=>bif s.toList==x.toList then f else qi9 l (f+1) x
def sgO (l:List ByteArray)(f:Int)(t:Tok):Int:=bif t.kind==6 then qi9 l f t.text else 0
def sgC:List ByteArray:=[strB [61],strB [33,61],strB [60],strB [60,61],strB [62],strB [62,61]]
def sgS:List ByteArray:=[strB [43],strB [45]]
def sgP:List ByteArray:=[strB [42],strB [47],strB [37]]
def opA:Nat->Tok->Int
 |0,t=>bif isW t (strB [79,82])then 14 else 0
 |1,t=>bif isW t (strB [65,78,68])then 13 else 0
 |3,t=>sgO sgC 7 t
 |4,t=>sgO sgS 1 t
 |5,t=>sgO sgP 3 t
 |_,_=>0
def nmF (L:List Tok)(i:Nat):Int⊕ByteArray:=bif (tkA L i).kind != 2 then .inl (tkA L i).pos else .inr (tkA L i).text
def atF (L:List Tok)(i:Nat):Int⊕(ByteArray×ByteArray):=match nmF L i with
 |.inl p=>.inl p
 |.inr a=>bif !isW (tkA L (i+1)) (strB [46])then .inl (tkA L (i+1)).pos
  else bif isW (tkA L (i+2)) (strB [84,73,77,69])then .inr (a,strB [84,73,77,69])else match nmF L (i+2)with
   |.inl p=>.inl p
   |.inr b=>.inr (a,b)
def agN:List ByteArray:=[strB [67,79,85,78,84],strB [70,73,82,83,84],strB [76,65,83,84],strB [83,85,77],strB [77,73,78],strB [77,65,88],strB [77,69,65,78]]
inductive PO where
 |err (p e:Int)
 |ok (x:Ex) (i:Nat)
def bnd (o:Option PO)(f:Ex->Nat->Option PO):Option PO:=match o with
 |none=>none
 |some (.err p e)=>some (.err p e)
 |some (.ok x i)=>f x i
def lit (op n s:Int)(a b:ByteArray)(p:Int):Ex:=.mk op [] n s a b p
def una (op:Int)(x:Ex)(p:Int):Ex:=.mk op [x] 0 0 (strB []) (strB []) p
def two (op:Int)(x y:Ex)(p:Int):Ex:=.mk op [x,y] 0 0 (strB []) (strB []) p
def clo (L:List Tok)(f:Ex->Ex)(x:Ex)(j:Nat):Option PO:=bif !isW (tkA L j) (strB [41])then some (.err (tkA L j).pos 13)else some (.ok (f x) (j+1))
def agF (L:List Tok)(i q:Nat):PO:=
 let p:=(tkA L i).pos
 bif !isW (tkA L (i+1)) (strB [40])then .err (tkA L (i+1)).pos 13
 else bif q==0 then(match nmF L (i+2)with
  |.inl p=>.err p 13
  |.inr a=>bif !isW (tkA L (i+3)) (strB [41])then .err (tkA L (i+3)).pos 13 else .ok (lit 25 0 0 a (strB []) p) (i+4))
 else match atF L (i+2)with
  |.inl p=>.err p 13
  |.inr (a,b)=>bif !isW (tkA L (i+5)) (strB [41])then .err (tkA L (i+5)).pos 13 else .ok (lit (25+q) 0 0 a b p) (i+6)
def agI:List ByteArray->Nat->ByteArray->Option Nat
 |[],_,_=>none
 |s::l,q,x=>bif !(s.toList==x.toList)then agI l (q+1) x else some q
def agO (L:List Tok)(i:Nat)(tx:ByteArray):PO:=match agI agN 0 tx with
 |none=>.err (tkA L i).pos 13
 |some q=>agF L i q
inductive St where
 |p (l i o:Nat)
 |lp (l:Nat) (x:Ex) (i o:Nat)
def nst (t:Tok)(o:Nat)(k:Option PO):Option PO:=bif o==30 then some (.err t.pos 14)else k
inductive LK where
 |con (out:PO)
 |brk (d:Nat) (f:Ex->Ex)
 |ner (p:Int)
def vD (L:List Tok)(i:Nat):LK:=
 let t:=tkA L i
 bif t.kind==3 then .con (.ok (lit 20 t.n 0 (strB []) (strB []) t.pos) (i+1))
 else bif t.kind==4 then .con (.ok (lit 21 t.n t.scale (strB []) (strB []) t.pos) (i+1))
 else bif t.kind==5 then .con (.ok (lit 23 0 0 t.text (strB []) t.pos) (i+1))
 else bif t.kind==2 then(match atF L i with
  |.inl p=>.con (.err p 13)
  |.inr (a,b)=>.con (.ok (lit 24 0 0 a b t.pos) (i+3)))
 else bif t.kind==6 then(bif t.text.toList==(strB [40]).toList then .brk 1 (fun x=>x)else .con (.err t.pos 13))
 else bif t.kind==1 then(
  bif t.text.toList==(strB [84,82,85,69]).toList then .con (.ok (lit 22 1 0 (strB []) (strB []) t.pos) (i+1))
  else bif t.text.toList==(strB [70,65,76,83,69]).toList then .con (.ok (lit 22 0 0 (strB []) (strB []) t.pos) (i+1))
  else bif t.text.toList==(strB [82,69,65,76]).toList||t.text.toList==(strB [73,83,78,65,78]).toList then
   (bif !isW (tkA L (i+1)) (strB [40])then .ner (tkA L (i+1)).pos else .brk 2 (fun x=>una (bif t.text.toList==(strB [73,83,78,65,78]).toList then 17 else 16) x t.pos))
  else .con (agO L i t.text))
 else .con (.err t.pos 13)
def Qm (L:List Tok)(rec:St->Option PO)(i o:Nat):Option PO:=match vD L i with
 |.con out=>some out
 |.ner p=>nst (tkA L i) o (some (.err p 13))
 |.brk d f=>nst (tkA L i) o (bnd (rec (.p 0 (i+d) (o+1))) (clo L f))
def unF (t:Tok)(rec:St->Option PO)(l:Nat)(w:ByteArray)(op:Int)(i o:Nat):Option PO:=bif !isW t w then rec (.p (l+1) i o)else nst t o (bnd (rec (.p l (i+1) (o+1))) fun x j=>some (.ok (una op x t.pos) j))
def pp (L:List Tok):Nat->St->Option PO
 |0,_=>none
 |n+1,.p 7 i o=>Qm L (pp L n) i o
 |n+1,.p 6 i o=>unF (tkA L i) (pp L n) 6 (strB [45]) 6 i o
 |n+1,.p 2 i o=>unF (tkA L i) (pp L n) 2 (strB [78,79,84]) 15 i o
 |n+1,.p 3 i o=>bnd (pp L n (.p 4 i o)) fun x j=>bif opA 3 (tkA L j)!=0 then bnd (pp L n (.p 4 (j+1) o)) fun y k=>some (.ok (two (opA 3 (tkA L j)) x y (tkA L j).pos) k)else some (.ok x j)
 |n+1,.p l i o=>bnd (pp L n (.p (l+1) i o)) fun x j=>pp L n (.lp l x j o)
 |n+1,.lp l x j o=>bif opA l (tkA L j)==0 then some (.ok x j)else bnd (pp L n (.p (l+1) (j+1) o)) fun y k=>pp L n (.lp l (two (opA l (tkA L j)) x y (tkA L j).pos) k o)
end Ab
end Go.Proofs.YtgfbbmjoflehlaaGreatDoor
