/- SolMod -/
import Derived.Test.YticieifacalocaaTSH12
namespace Go.Proofs.Yticieifacalocaa
def vr (l:Int):Nat:=l.natAbs-1
def LIM:Nat:=1099511627776
structure Eng where
 cls:List (List Int)
 inp:List Nat
 wat:Int→List Nat
 val:List Int
 rsn:List Int
 lvl:List Int
 tr:List Int
 st:List Nat
 hd:Nat
def Eng.new (B:Nat):Eng:=⟨[],[],fun _=>[],List.replicate B 0,List.replicate B (-1),List.replicate B 0,[],[],0⟩
def tv (val:List Int) (l:Int):Int:=if l<0 then -(val.getD (vr l) 0) else val.getD (vr l) 0
def litB (B:Nat) (l:Int):Bool:=decide (l≠0∧vr l<B)
def upd (m:Int→List Nat) (l:Int) (x:List Nat):Int→List Nat:=fun k=>if k=l then x else m k
def Eng.assign (e:Eng) (l r:Int):Eng :=
 { e with val:=e.val.set (vr l) (if l<0 then -1 else 1),rsn:=e.rsn.set (vr l) r,lvl:=e.lvl.set (vr l) e.st.length,tr:=e.tr++[l] }
def Eng.cl (e:Eng) (c:Nat):List Int:=e.cls.getD c []
def swp (l:List Int) (i j:Nat):List Int:=(l.set i (l.getD j 0)).set j (l.getD i 0)
def Eng.swap (e:Eng) (c i j:Nat):Eng:={ e with cls:=e.cls.set c (swp (e.cl c) i j) }
def Eng.watch (e:Eng) (l:Int) (c:Nat):Eng:={ e with wat:=upd e.wat l (e.wat l++[c]) }
def Eng.attach (e:Eng) (c:Nat):Eng:=(e.watch ((e.cl c).getD 0 0) c).watch ((e.cl c).getD 1 0) c
def openAt (val:List Int) (cl:List Int) (i:Nat):Option Nat:=(List.range' i (cl.length-i)).find? fun j=>decide (0≤tv val (cl.getD j 0))
def Eng.moved (e:Eng) (c i:Nat):Eng:=(e.swap c 1 i).watch ((e.cl c).getD i 0) c
def Eng.clOk (e:Eng) (c:Nat):Bool:=decide (c<e.cls.length) && decide (2≤(e.cl c).length) && (e.cl c).all (litB e.val.length)
def gR (lit:Int):Eng→List Nat→List Nat→Option (Eng × Int)
 | e,[],kept=>some ({ e with wat:=upd e.wat lit kept }, -1)
 | e,c::rest,kept =>
  if e.clOk c=true then
   let e1:=if (e.cl c).getD 0 0=lit then e.swap c 0 1 else e
   let l0:=(e1.cl c).getD 0 0
   if tv e1.val l0≤0 then
    match openAt e1.val (e1.cl c) 2 with
    | some i=>if (e1.cl c).getD i 0≠lit∧(e1.wat ((e1.cl c).getD i 0)).length<LIM then gR lit (e1.moved c i) rest kept else none
    | none=>if tv e1.val l0=0 then (if e1.tr.length<LIM then gR lit (e1.assign l0 c) rest (kept++[c]) else none) else some ({ e1 with wat:=upd e1.wat lit (kept++[c]++rest) },c)
   else gR lit e1 rest (kept++[c])
  else none
def aQ:Nat→Eng→Option (Eng × Int)
 | 0,_=>none
 | n+1,e =>
  match e.tr[e.hd]? with
  | none=>some (e, -1)
  | some lit =>
   if litB e.val.length lit=true then
    match gR (-lit) { e with hd:=e.hd+1 } (e.wat (-lit)) [] with
    | none=>none
    | some (e2,c)=>if 0≤c then some (e2,c) else aQ n e2
   else none
def gM (wJ:List Int→Option (List Int)):Nat→List (List Int)→Eng→Option (Eng × Int)
 | _,[],e=>some (e, -1)
 | i,g::rest,e =>
  match wJ g with
  | none=>gM wJ (i+1) rest e
  | some cl =>
   if cl.all (litB e.val.length)=true then
    let c:=e.cls.length
    let e1:={ e with cls:=e.cls++[cl],inp:=e.inp++[i] }
    match cl with
    | []=>some (e1,c)
    | [l]=>if tv e1.val l<0 then some (e1,c) else if tv e1.val l=0 then gM wJ (i+1) rest (e1.assign l c) else gM wJ (i+1) rest e1
    | _=>gM wJ (i+1) rest (e1.attach c)
   else none
def iK (x:Int):Bool:=decide (-1152921504606846976≤x∧x≤1152921504606846976)
def rJ (N:Nat) (a:Arc):Bool:=decide (0≤a.x∧a.x<N∧0≤a.y∧a.y<N ∧ -2097152≤a.c∧a.c≤2097152)
def gB (ay n:Int):List Arc→List Int→List Arc→List Bool→List Int→Option ((List Int × List Arc × List Bool × List Int) ⊕ List Arc)
 | [],num,by_,wait,q=>some (.inl (num,by_,wait,q))
 | b::rest,num,by_,wait,q =>
  if rJ num.length b=true∧iK (gi num n)=true then
   if gi num b.x≤gi num n+b.c then gB ay n rest num by_ wait q
   else if b.x=ay then some (.inr (by_.set b.x.toNat b))
   else if q.length<1000 then gB ay n rest (num.set b.x.toNat (gi num n+b.c)) (by_.set b.x.toNat b) (if wait.getD b.x.toNat false=true then wait else wait.set b.x.toNat true) (if wait.getD b.x.toNat false=true then q else q++[b.x])
   else none
  else none
def aP (by_:List Arc) (r:Int):Nat→Int→Option (List Int)
 | 0,_=>none
 | k+1,n=>if n=r then some [] else if 0≤n∧n<by_.length then (aP by_ r k (ga by_ n).y).map ((ga by_ n).lit::·) else none
def gV (arcs:List (List Arc)) (a:Arc):Nat→List Int→List Arc→List Bool→List Int→Option (List Int ⊕ List Int)
 | 0,_,_,_,_=>none
 | _+1,num,_,_,[]=>some (.inl num)
 | k+1,num,by_,wait,n::q =>
  if 0≤n∧n<num.length then
   match gB a.y n (arcs.getD n.toNat []) num by_ (wait.set n.toNat false) q with
   | none=>none
   | some (.inl (num2,by2,wait2,q2))=>gV arcs a k num2 by2 wait2 q2
   | some (.inr by2)=>(aP by2 a.x 1000 a.y).map fun l => .inr (l++[a.lit])
  else none
def lowerF (fuel:Nat) (arcs:List (List Arc)) (num:List Int) (a:Arc):Option (List Int ⊕ List Int) :=
 gV arcs a fuel (num.set a.x.toNat (gi num a.y+a.c)) ((List.replicate num.length default).set a.x.toNat a) (List.replicate num.length false) [a.x]
structure Org where
 leaf:Stp
 first:Nat
 chain:List (Nat × Int)
structure Sol where
 e:Eng
 num:List Int
 arcs:List (List Arc)
 act:List Bool
 org:List Org
 unt:List Int
 acty:List Int
 rst:Int
def Sol.new (f:Form):Sol :=
 ⟨Eng.new f.bools.toNat,(List.range f.ints.toNat).map Int.ofNat,List.replicate f.ints.toNat [],List.replicate f.bools.toNat false,[],List.replicate f.bools.toNat (-1),List.replicate f.bools.toNat 0,100⟩
def w64 (x:Int):Int:=(x+9223372036854775808) % 18446744073709551616-9223372036854775808
def wF:Stp:=⟨0,0,[],0,0,0⟩
def Sol.addF (s:Sol) (cl:List Int) (o:Org):Option Sol :=
 if s.e.cls.length<LIM∧s.org.length<LIM then some { s with e:={ s.e with cls:=s.e.cls++[cl] },org:=s.org++[o] } else none
def dA:Nat→Sol→Nat→Option (Sol × Nat)
 | 0,_,_=>none
 | n+1,s,v =>
  if v<s.unt.length∧v<s.e.rsn.length then
   if 0≤s.unt.getD v 0 then some (s,(s.unt.getD v 0).toNat)
   else
    let r:=(s.e.rsn.getD v 0).toNat
    if 0≤s.e.rsn.getD v 0∧r<s.e.cls.length∧(s.e.cl r).length<LIM then
     if (s.e.cl r).length=1 then some ({ s with unt:=s.unt.set v r },r)
     else
      match (s.e.cl r).foldlM (fun (p:Sol × List Int × List (Nat × Int)) lit =>
       if litB p.1.unt.length lit=true then
        if vr lit=v then some (p.1,p.2.1++[lit],p.2.2)
        else (dA n p.1 (vr lit)).map fun q=>(q.1,p.2.1,p.2.2++[(q.2, -lit)])
       else none) (s,[],[]) with
      | none=>none
      | some (s1,own,ch)=>(s1.addF own ⟨wF,r,ch⟩).map fun s2=>({ s2 with unt:=s2.unt.set v s1.e.cls.length },s1.e.cls.length)
    else none
  else none
def unitsF (fuel:Nat) (s:Sol) (lits:List Int) (ch:List (Nat × Int)):Option (Sol × List (Nat × Int)) :=
 lits.foldlM (fun p lit=>if litB p.1.unt.length lit=true∧p.2.length<LIM then (dA fuel p.1 (vr lit)).map fun q=>(q.1,p.2++[(q.2, -lit)]) else none) (s,ch)
def needStep (org:List Org) (need:List Bool) (c:Nat):List Bool :=
 match org[c]? with
 | none=>need
 | some o=>if need.getD c false=true∧o.leaf.kind=0 then o.chain.foldl (fun n l=>n.set l.1 true) (need.set o.first true) else need
def needF (org:List Org) (last:Nat):List Bool:=((List.range (last+1)).reverse).foldl (needStep org) ((List.replicate (last+1) false).set last true)
def gE:List (Nat × Int)→List Nat→Nat→Nat→List Stp→List Nat × List Stp
 | [],place,_,_,out=>(place,out)
 | (k,l)::r,place,c,cur,out =>
  let s:Stp:=if l<0 then ⟨3,0,[],cur,place.getD k 0,vr l⟩ else ⟨3,0,[],place.getD k 0,cur,vr l⟩
  gE r (place.set c out.length) c out.length (out++[s])
def outStep (org:List Org) (need:List Bool) (p:List Nat × List Stp) (c:Nat):List Nat × List Stp :=
 match org[c]? with
 | none=>p
 | some o =>
  if need.getD c false=true then
   if o.leaf.kind≠0 then (p.1.set c p.2.length,p.2++[o.leaf])
   else gE o.chain (p.1.set c (p.1.getD o.first 0)) c (p.1.getD o.first 0) p.2
  else p
def stepsF (org:List Org) (last:Nat):List Stp:=((List.range (last+1)).foldl (outStep org (needF org last)) (List.replicate (last+1) 0,[])).2
def orgOk (n:Nat) (o:Org):Bool:=decide (o.first<n) && o.chain.all (fun l=>decide (l.1<n∧l.2≠0 ∧ -1048576≤l.2∧l.2≤1048576)) && decide (o.chain.length<LIM)
def refuteF (fuel:Nat) (s:Sol) (conflict:Nat):Option (List Stp) :=
 if conflict<s.e.cls.length then
  match unitsF fuel s (s.e.cl conflict) [] with
  | none=>none
  | some (s1,ch)=>match s1.addF [] ⟨wF,conflict,ch⟩ with
   | none=>none
   | some s2 =>
    if s2.org.length=s2.e.cls.length∧(∀c,c<s2.org.length→∀o,s2.org[c]? = some o→orgOk s2.org.length o=true)∧(stepsF s2.org s1.e.cls.length).length<LIM then some (stepsF s2.org s1.e.cls.length) else none
 else none
def constrainF (fuel:Nat) (f:Form) (s:Sol) (lit:Int):Option (Sol × Int) :=
 match bound f.atoms lit with
 | none=>some (s, -1)
 | some d =>
  let a:Arc:=⟨lit,d.x,d.y,d.c⟩
  if rJ s.num.length a=true∧s.arcs.length=s.num.length∧iK (gi s.num d.x)=true∧iK (gi s.num d.y)=true∧(s.arcs.getD d.y.toNat []).length<LIM∧litB s.act.length lit=true then
   let put (num:List Int):Sol:={ s with num:=num,arcs:=s.arcs.set d.y.toNat (s.arcs.getD d.y.toNat []++[a]),act:=s.act.set (vr lit) true }
   if d.c<gi s.num d.x-gi s.num d.y then
    match lowerF fuel s.arcs s.num a with
    | none=>none
    | some (.inl num)=>some (put num, -1)
    | some (.inr lits)=>(s.addF (lits.map fun l => -l) ⟨⟨2,0,lits,0,0,0⟩,0,[]⟩).map fun s2=>(s2,(s.e.cls.length:Int))
   else some (put s.num, -1)
  else none
def bR (f:Form):Nat→Sol→Option (Sol × Int)
 | 0,_=>none
 | n+1,s =>
  match s.e.tr[s.e.hd]? with
  | none=>some (s, -1)
  | some lit =>
   if litB s.e.val.length lit=true then
    match gR (-lit) { s.e with hd:=s.e.hd+1 } (s.e.wat (-lit)) [] with
    | none=>none
    | some (e2,c) =>
     if 0≤c then some ({ s with e:=e2 },c)
     else match constrainF n f { s with e:=e2 } lit with
      | none=>none
      | some (s3,c2)=>if 0≤c2 then some (s3,c2) else bR f n s3
   else none
def fZ (val acty:List Int):Int :=
 (List.range val.length).foldl (fun b v=>if val.getD v 0=0∧(b<0∨acty.getD b.toNat 0<acty.getD v 0) then (v:Int) else b) (-1)
def decideF (f:Form) (s:Sol):Option (Option Sol) :=
 let b:=fZ s.e.val s.acty
 if b<0 then some none
 else if s.e.tr.length<LIM∧s.e.st.length<LIM∧s.acty.length=s.e.val.length then
  let go (l:Int):Sol:={ s with e:=({ s.e with st:=s.e.st++[s.e.tr.length] }:Eng).assign l (-1) }
  match f.atoms[b.toNat]? with
  | none=>some (some (go (-(b+1))))
  | some d =>
   if 0≤d.x∧d.x<s.num.length∧0≤d.y∧d.y<s.num.length∧iK (gi s.num d.x)=true∧iK (gi s.num d.y)=true then
    some (some (go (if gi s.num d.x-gi s.num d.y≤d.c then b+1 else -(b+1))))
   else none
 else none
def undoF (f:Form) (s:Sol) (lit:Int):Sol :=
 { s with
  e:={ s.e with val:=s.e.val.set (vr lit) 0,rsn:=s.e.rsn.set (vr lit) (-1) }
  act:=if s.act.getD (vr lit) false=true then s.act.set (vr lit) false else s.act
  arcs:=if s.act.getD (vr lit) false=true then (match bound f.atoms lit with
   | some d=>s.arcs.set d.y.toNat (s.arcs.getD d.y.toNat []).dropLast
   | none=>s.arcs) else s.arcs }
def undoOk (f:Form) (s:Sol) (lit:Int):Bool :=
 litB s.e.val.length lit && decide (s.act.length=s.e.val.length) && (!s.act.getD (vr lit) false || match bound f.atoms lit with
  | some d=>decide (0≤d.y∧d.y<s.arcs.length∧0<(s.arcs.getD d.y.toNat []).length)
  | none=>true)
def backF (f:Form) (s:Sol) (level:Nat):Option Sol :=
 if s.e.st.length≤level then some s
 else
  let first:=s.e.st.getD level 0
  if first≤s.e.tr.length then
   ((s.e.tr.drop first).reverse.foldlM (fun s lit=>if undoOk f s lit=true then some (undoF f s lit) else none) s).map fun s1 =>
    { s1 with e:={ s1.e with tr:=s1.e.tr.take first,st:=s1.e.st.take level,hd:=first } }
  else none
structure Lrn where
 acty:List Int
 seen:List Bool
 clause:List Int
 fixed:List Int
 opn:Int
def collectLit (lvl:List Int) (cur:Nat) (p:Lrn) (lit:Int):Lrn :=
 if p.seen.getD (vr lit) false=true then p
 else
  let p1:={ p with seen:=p.seen.set (vr lit) true,acty:=p.acty.set (vr lit) (w64 (p.acty.getD (vr lit) 0+1)) }
  if lvl.getD (vr lit) 0=cur then { p1 with opn:=p1.opn+1 }
  else if lvl.getD (vr lit) 0=0 then { p1 with fixed:=p1.fixed++[lit] }
  else { p1 with clause:=p1.clause++[lit] }
def wE (lvl:List Int) (cur:Nat) (p:Lrn) (cl:List Int):Lrn:=cl.foldl (collectLit lvl cur) p
def dK (e:Eng):Nat→Lrn→List (Nat × Int)→Option (Nat × Lrn × List (Nat × Int))
 | 0,_,_=>none
 | k+1,p,ch =>
  let t:=e.tr.getD k 0
  if litB e.val.length t=true then
   if p.seen.getD (vr t) false=true then
    if p.opn=1 then some (k,p,ch)
    else
     let r:=e.rsn.getD (vr t) 0
     if 0≤r∧r<e.cls.length∧(e.cl r.toNat).all (litB e.val.length)=true∧ch.length<LIM∧1<p.opn∧p.opn<LIM∧(e.cl r.toNat).length<LIM then
      dK e k (wE e.lvl e.st.length { p with opn:=p.opn-1 } (e.cl r.toNat)) (ch++[(r.toNat,t)])
     else none
   else dK e k p ch
  else none
def topF (lvl:List Int):List Nat→List Int→Int→List Int × Int
 | [],cl,level=>(cl,level)
 | i::r,cl,level =>
  let l:=lvl.getD (vr (cl.getD i 0)) 0
  if level<l then topF lvl r (swp cl 1 i) l else topF lvl r cl level
def installF (f:Form) (s:Sol) (clause:List Int) (o:Org):Option Sol :=
 if clause.all (litB s.e.val.length)=true∧0<clause.length∧clause.length<LIM then
  let p:=topF s.e.lvl (List.range' 1 (clause.length-1)) clause 0
  if 0≤p.2 then
   match s.addF p.1 o with
   | none=>none
   | some s1 =>
    if 1<clause.length∧¬((s1.e.wat (p.1.getD 0 0)).length<LIM∧(s1.e.wat (p.1.getD 1 0)).length<LIM∧p.1.getD 0 0≠p.1.getD 1 0) then none
    else
     let s2:=if 1<clause.length then { s1 with e:=s1.e.attach s.e.cls.length } else s1
     match backF f s2 p.2.toNat with
     | none=>none
     | some s3=>if s3.e.tr.length<LIM then some { s3 with e:=s3.e.assign (p.1.getD 0 0) (s.e.cls.length:Int) } else none
  else none
 else none
def learnF (fuel:Nat) (f:Form) (s:Sol) (conflict:Nat):Option Sol :=
 if conflict<s.e.cls.length∧(s.e.cl conflict).all (litB s.e.val.length)=true∧(s.e.cl conflict).length<LIM∧s.acty.length=s.e.val.length∧s.e.lvl.length=s.e.val.length∧s.e.rsn.length=s.e.val.length∧s.unt.length=s.e.val.length then
  match dK s.e s.e.tr.length (wE s.e.lvl s.e.st.length ⟨s.acty,List.replicate s.e.val.length false,[],[],0⟩ (s.e.cl conflict)) [] with
  | none=>none
  | some (k,p,ch) =>
   match unitsF fuel { s with acty:=p.acty } p.fixed ch with
   | none=>none
   | some (s1,ch2)=>installF f s1 (-(s.e.tr.getD k 0)::p.clause) ⟨wF,conflict,ch2⟩
 else none
def wW (f:Form):Nat→Int→Sol→Option (Sol × Int)
 | 0,_,_=>none
 | n+1,conf,s =>
  match bR f n s with
  | none=>none
  | some (s1,c) =>
   if c<0 then
    match decideF f s1 with
    | none=>none
    | some none=>some (s1, -1)
    | some (some s2)=>wW f n conf s2
   else if s1.e.st.length=0 then some (s1,c)
   else match learnF n f s1 c.toNat with
    | none=>none
    | some s2 =>
     if 0≤conf∧conf<LIM∧0≤s2.rst∧s2.rst<LIM then
      let conf1:=conf+1
      let s3:=if conf1 % 256=0 then { s2 with acty:=s2.acty.map fun x=>x.tdiv 2 } else s2
      if s3.rst≤conf1 then
       match backF f { s3 with rst:=s3.rst+conf1 / 2 } 0 with
       | none=>none
       | some s4=>wW f n conf1 s4
      else wW f n conf1 s3
     else none
def solveF (fuel:Nat) (wJ:List Int→Option (List Int)) (f:Form):Option (List Int ⊕ List Stp) :=
 let s0:=Sol.new f
 match gM wJ 0 f.clauses s0.e with
 | none=>none
 | some (e1,c) =>
  let s1:Sol:={ s0 with e:=e1,org:=e1.inp.map fun i=>⟨⟨1,(i:Nat),[],0,0,0⟩,0,[]⟩ }
  if c<0 then
   match wW f fuel 0 s1 with
   | none=>none
   | some (s2,c2)=>if c2<0 then some (.inl s2.e.val) else (refuteF fuel s2 c2.toNat).map .inr
  else (refuteF fuel s1 c.toNat).map .inr
end Go.Proofs.Yticieifacalocaa
