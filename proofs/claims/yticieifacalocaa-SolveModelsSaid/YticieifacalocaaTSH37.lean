/- SolSearch -/
import Derived.Test.YticieifacalocaaTSH20
namespace Go.Proofs.Yticieifacalocaa
def phi (B:Nat) (d:Nat→Bool):Nat→Nat
 | 0=>0
 | n+1=>phi B d n+(if d n=true then 0 else 2 ^ (B-1-n))
theorem fE {B:Nat} {d d2:Nat→Bool}:∀{n:Nat},(∀p,p<n→d p=d2 p)→phi B d n=phi B d2 n:=by
 intro n
 induction n with
 | zero=>intro _;rfl
 | succ n ih=>intro h;rw [phi,phi,ih fun p hp=>h p (by omega),h n (by omega)]
theorem oQ {B:Nat} {d:Nat→Bool} {m:Nat}:∀{n:Nat},m≤n→phi B d m≤phi B d n:=by
 intro n
 induction n with
 | zero=>intro h;rw [jV.1 h];exact Nat.le_refl _
 | succ n ih =>
  intro h
  by_cases e:m=n+1
  ·rw [e];exact Nat.le_refl _
  ·rw [phi];have:=ih (by omega);omega
theorem pF {B:Nat} {d:Nat→Bool} {m:Nat}:∀{n:Nat},m≤n→n≤B→phi B d n+2 ^ (B-n)≤phi B d m+2 ^ (B-m):=by
 intro n
 induction n with
 | zero=>intro h _;rw [jV.1 h];exact Nat.le_refl _
 | succ n ih =>
  intro h hB
  by_cases e:m=n+1
  ·rw [e];exact Nat.le_refl _
  ·have h1:=ih (by omega) (by omega)
   rw [phi]
   have h2:2 ^ (B-n)=2 ^ (B-(n+1))+2 ^ (B-(n+1)):=by
    rw [show B-n=(B-(n+1))+1 by omega,Nat.pow_succ];omega
   have h3:B-1-n=B-(n+1):=by omega
   have h4:0<2 ^ (B-(n+1)):=jW (by omega)
   rw [h3]
   split<;>omega
theorem phi_lt {B:Nat} {d:Nat→Bool} {n:Nat} (h:n≤B):phi B d n<2 ^ B:=by
 have:=pF (d:=d) (zQ n) h
 have h2:0<2 ^ (B-n):=jW (by omega)
 rw [phi] at this
 simp at this
 omega
theorem phi_flip {B:Nat} {d d2:Nat→Bool} {k n:Nat} (hk:k<n) (hn:n≤B) (h1:d k=true) (h2:d2 k=false) (h3:∀p,p<k→d2 p=d p):phi B d n+1≤phi B d2 (k+1):=by
 have h4:=pF (d:=d) (m:=k+1) (n:=n) (by omega) hn
 rw [phi,if_pos h1] at h4
 rw [phi,h2,fE h3]
 have h5:0<2 ^ (B-n):=jW (by omega)
 have h6:B-1-k=B-(k+1):=by omega
 rw [h6]
 simp
 omega
def decd (e:Eng) (p:Nat):Bool:=decide (p∈e.st)
def Eng.phi (B:Nat) (e:Eng):Nat:=Go.Proofs.Yticieifacalocaa.phi B (decd e) e.tr.length
section
variable {f:Form} {B N:Nat} {Lo:Int}
def maxC (B:Nat):Nat:=4 * 2 ^ B+100
structure Srch (f:Form) (B N:Nat) (s:Sol) (conf c0 base:Nat):Prop where
 i:SolI f f B N s s.e.hd (34603041 * ((conf:Int) * B+s.e.hd))
 ph:conf≤c0+s.e.phi B
 rs:(c0=0∧s.rst=100)∨(100≤c0∧s.rst=c0+c0 / 2)
 lt:(conf:Int)<s.rst
 c0:c0≤3 * 2 ^ B+100
 cl:s.e.cls.length≤base+2 * conf+unitsOf s
structure ModelOk (f:Form) (B:Nat) (val:List Int):Prop where
 len:val.length=B
 v3:∀i,i<B→val.getD i 0=1∨val.getD i 0 = -1
 cl:∀g∈f.clauses,∃x∈g,litB B x=true∧tv val x=1
 sol:∃X:Int→Int,∀v:Nat,v<B→∀d,bound f.atoms (if 0<val.getD v 0 then (v:Int)+1 else -((v:Int)+1))=some d→X d.x≤X d.y+d.c
theorem model_ok (hq:SolQ f B N) {s:Sol} (hs:SolI f f B N s s.e.hd Lo) (hhd:s.e.hd=s.e.tr.length) (hall:∀v,v<B→s.e.val.getD v 0≠0):ModelOk f B s.e.val:=by
 have ht:=hs.g.t
 have hv:∀i,i<B→s.e.val.getD i 0=1∨s.e.val.getD i 0 = -1:=fun i hi=>by
  have:=ht.v3 i
  have:=hall i hi
  omega
 have hone:∀x,litB B x=true→tv s.e.val x=1∨tv s.e.val x = -1:=fun x hx=>by
  have:=hv (vr x) (wD.1 hx).2
  unfold tv
  split<;>omega
 refine ⟨ht.vl,hv,fun g hg => ?_,fun v=>gi s.num v,fun v hvB d hd => ?_⟩
 ·have hgl:=hq.cs g hg
  rcases hs.g.i g hg with h|⟨c,h1,h2,h3⟩
  ·have hn:=gD g
   rw [h] at hn
   rcases hn with ⟨x,hx,hb⟩|⟨x,hx,ho,h0⟩
   ·rw [cO hq.bl (hgl x hx)] at hb;cases hb
   ·rcases hone x (hgl x hx) with h1|h1
    ·exact ⟨x,hx,hgl x hx,h1⟩
    ·exact ⟨-x,ho,hgl _ ho,by rw [tv_neg h0];omega⟩
  ·have hfc:=hs.g.c c h1
   have hmem:∀x,x∈s.e.cl c→x∈g:=fun x hx=>by
    have hn:=gD g
    rw [h2] at hn
    exact (hn.2.1 x).1 (((gJ hq.bl hfc).2.2 x).2 hx)
   have hfin:∀x,x∈s.e.cl c→x∈s.e.tr→∃x∈g,litB B x=true∧tv s.e.val x=1:=fun x hx hxt=>⟨x,hmem x hx,hfc.1 x hx,(ht.tr x (hfc.1 x hx)).2 hxt⟩
   rcases h3 with ⟨h3,h4⟩|⟨l,h3,h4,h5⟩
   ·have hg0:s.e.g0 c∈s.e.cl c:=getD_mem (by omega)
    have hg1:s.e.g1 c∈s.e.cl c:=getD_mem (by omega)
    rcases hone _ (hfc.1 _ hg0) with h6|h6
    ·exact ⟨_,hmem _ hg0,hfc.1 _ hg0,h6⟩
    ·have h7:=(ht.false_ (hfc.1 _ hg0)).1 h6
     have h8:=((hs.g.w.w3 c h4).1 (by rw [hhd,yC];exact h7)).1
     exact hfin _ hg1 h8
   ·exact hfin l (by rw [h3];simp) h4
 ·
  have hl:litB B (if 0<s.e.val.getD v 0 then (v:Int)+1 else -((v:Int)+1))=true:=by
   refine wD.2 ⟨?_,?_⟩
   ·split<;>omega
   ·unfold vr;split<;>omega
  have htv:tv s.e.val (if 0<s.e.val.getD v 0 then (v:Int)+1 else -((v:Int)+1))=1:=by
   have h1:=hv v hvB
   unfold tv
   by_cases h2:0<s.e.val.getD v 0
   ·rw [if_pos h2,if_neg (by omega)]
    have:vr ((v:Int)+1)=v:=by unfold vr;omega
    rw [this];omega
   ·rw [if_neg h2,if_pos (by omega)]
    have:vr (-((v:Int)+1))=v:=by unfold vr;omega
    rw [this];omega
  have hm:=(ht.tr _ hl).1 htv
  have:=hs.t.sat ⟨(if 0<s.e.val.getD v 0 then (v:Int)+1 else -((v:Int)+1)),d.x,d.y,d.c⟩ (by
   rw [xQ]
   refine ⟨_,by rw [hhd,yC];exact hm,?_⟩
   unfold arcOf
   rw [hd];rfl)
  exact this
theorem sC (hq:SolQ f B N) (hB:B≤24) {base:Nat} (hbase:base≤65536):∀(m fuel:Nat) (s:Sol) (conf c0:Nat),Srch f B N s conf c0 base→(maxC B-conf) * (B+2)+(B-s.e.tr.length)<m→m+B+2+200 * 576460752303423488≤fuel →
  ∃s2 r,wW f fuel conf s=some (s2,r)∧((r = -1∧ModelOk f B s2.e.val)∨(∃c:Nat,r=c∧c<s2.e.cls.length∧s2.e.st=[]∧(∃x,x∈s2.e.cl c)∧(∀x∈s2.e.cl c, -x∈s2.e.tr)∧s2.e.cls.length≤base+2 * maxC B+B+1∧∃h Lo,SolI f f B N s2 h Lo)):=by
 have h2B:2 ^ B≤16777216:=qA (jF (by omega) hB) (by decide)
 intro m
 induction m with
 | zero=>intro fuel s conf c0 _ h;omega
 | succ m ih =>
  intro fuel s conf c0 hs hm hfu
  have hi:=hs.i
  have hBt:=hi.g.t.len
  have hhdl:=hi.g.l.hd
  have hphi:=phi_lt (d:=decd s.e) hBt
  have hph:=hs.ph
  unfold Eng.phi at hph
  have hc0:=hs.c0
  have hconf:conf+1≤maxC B:=by unfold maxC;omega
  have hmc:maxC B≤67108964:=by unfold maxC;omega
  have hul:=gW hi.d
  have hcl:=hs.cl
  have hB0:(B:Int)≤24:=by omega
  have hcb:(conf:Int) * B≤67108964 * 24:=vL (kH hB0 (by omega)) (vR (by omega) (by omega))
  have hcb0:0≤(conf:Int) * B:=Int.mul_nonneg (by omega) (by omega)
  cases fuel with
  | zero=>omega
  | succ fuel =>
   rw [wW]
   obtain ⟨s1,c,q1,q2⟩:=propS_ok hq (B+1-s.e.hd) fuel s _ (by omega) (by omega) hi (by omega) (by
    have:(s.e.hd:Int)≤B:=by omega
    have h9:34603041 * ((conf:Int) * B+s.e.hd)+34603041 * ((B:Int)-s.e.hd)=34603041 * ((conf:Int) * B+B):=by rw [←kG];congr 1;omega
    rw [h9]
    omega) (by unfold LIM;omega)
   rw [q1]
   simp only
   obtain ⟨mm,hmm⟩:=q2.tr
   have hcl1:=q2.cl
   have hhd1:=q2.hd
   have hun1:unitsOf s1=unitsOf s:=by unfold unitsOf;rw [q2.unt]
   have htl1:s.e.tr.length≤s1.e.tr.length:=by rw [hmm,zJ];omega
   have hdec:∀p,decd s1.e p=decd s.e p:=fun p=>by unfold decd;rw [q2.st]
   obtain ⟨Lo2,l1,l2,l3⟩:=q2.ok
   rcases l3 with ⟨rfl,l4,l5,l6⟩|⟨c,rfl,k1,k2,k3,h,k4,k5,k6⟩
   ·
    rw [if_pos (by decide)]
    have hBt1:=l6.g.t.len
    have hLo:Lo2≤34603041 * ((conf:Int) * B+s1.e.hd):=by
     have h9:34603041 * ((conf:Int) * B+s.e.hd)+34603041 * ((s1.e.hd:Int)-s.e.hd)=34603041 * ((conf:Int) * B+s1.e.hd):=by rw [←kG];congr 1;omega
     omega
    have hi1:SolI f f B N s1 s1.e.hd (34603041 * ((conf:Int) * B+s1.e.hd)):=⟨l6.g,⟨l6.t.nl,l6.t.al,l6.t.cl,l6.t.ar,l6.t.ac,l6.t.sat,fun v v0 v1=>by have:=l6.t.lo v v0 v1;omega⟩,l6.d⟩
    have hLb:0≤34603041 * ((conf:Int) * B+s1.e.hd)∧34603041 * ((conf:Int) * B+s1.e.hd)≤576460752303423488:=by
     have:(s1.e.hd:Int)≤B:=by omega
     omega
    rcases decideF_ok hq hi1 l5 hLb with ⟨d1,d2⟩|⟨l,d1,d2⟩
    ·rw [d1]
     exact ⟨s1, -1,rfl, .inl ⟨rfl,model_ok hq hi1 l5 d2⟩⟩
    ·rw [d1]
     simp only
     have hph2:conf≤c0+(({ s1.e with st:=s1.e.st++[s1.e.tr.length] }:Eng).assign l (-1)).phi B:=by
      unfold Eng.phi
      show conf≤c0+phi B _ (s1.e.tr++[l]).length
      rw [zJ,qQ,phi]
      have h8:phi B (decd (({ s1.e with st:=s1.e.st++[s1.e.tr.length] }:Eng).assign l (-1))) s1.e.tr.length=phi B (decd s.e) s1.e.tr.length:=fE fun p hp=>by
       rw [←hdec]
       unfold decd
       refine vT.2 ?_
       show p∈s1.e.st++[s1.e.tr.length]↔_
       rw [zK,zH]
       exact ⟨fun h=>h.elim id fun h=>by omega, .inl⟩
      have h9:=oQ (B:=B) (d:=decd s.e) htl1
      omega
     obtain ⟨s2,r,z1,z2⟩:=ih fuel { s1 with e:=({ s1.e with st:=s1.e.st++[s1.e.tr.length] }:Eng).assign l (-1) } conf c0 ⟨d2,hph2,by show (c0=0∧s1.rst=100)∨_;rw [q2.rst];exact hs.rs,by show _<s1.rst;rw [q2.rst];exact hs.lt,hs.c0,by show s1.e.cls.length≤base+2 * conf+unitsOf s1;omega⟩ (by
      show _+(B-(s1.e.tr++[l]).length)<m
      have h9:(s1.e.tr++[l]).length≤B:=d2.g.t.len
      simp only [zJ,qQ] at h9 ⊢
      omega) (by omega)
     exact ⟨s2,r,z1,z2⟩
   ·
    rw [if_neg (by omega)]
    have hul1:=gW k6.d
    by_cases hst:s1.e.st.length=0
    ·rw [if_pos hst]
     obtain ⟨x,hx, -⟩:=k3
     exact ⟨s1,c,rfl, .inr ⟨c,rfl,k1,vH.1 hst,⟨x,hx⟩,k2,by omega,h,Lo2,k6⟩⟩
    ·rw [if_neg hst]
     obtain ⟨s2,y1,y2⟩:=learnF_ok hq k6 k4 (fun e=>hst (by rw [e];rfl)) k1 k2 k3 (by unfold LIM;omega) (fuel:=fuel) (by omega)
     rw [Int.toNat_natCast,y1]
     simp only
     obtain ⟨level,first,l,b1,b2,b3,b4⟩:=y2.bk
     have hcnt:=y2.cnt
     have hul2:=gW y2.i.d
     have hfm:=List.mem_of_getElem? b1
     have hf1:=(k6.g.l.sl first hfm).1
     have hBt1:=k6.g.t.len
     have htl2:s2.e.tr.length=first+1:=by rw [b4];simp;omega
     obtain ⟨st1,st2⟩:=iT k6.g.l.sp b1
     have hrst:s2.rst=s.rst:=y2.rst.trans q2.rst
     have hflip:phi B (decd s1.e) s1.e.tr.length+1≤s2.e.phi B:=by
      unfold Eng.phi
      rw [htl2]
      refine phi_flip hf1 hBt1 (by unfold decd;simpa using hfm) ?_ fun p hp => ?_
      ·unfold decd
       rw [b2]
       refine decide_eq_false fun hm => ?_
       have:=st1 first hm;omega
      ·unfold decd
       refine vT.2 ?_
       rw [b2]
       exact ⟨fun h=>zN h,fun h=>st2 p h hp⟩
     have hphi2:phi B (decd s.e) s.e.tr.length≤phi B (decd s1.e) s1.e.tr.length:=by
      rw [fE (d:=decd s1.e) (d2:=decd s.e) fun p _=>hdec p]
      exact oQ htl1
     have hph3:conf+1≤c0+s2.e.phi B:=by omega
     have hphlt:s2.e.phi B<2 ^ B:=phi_lt y2.i.g.t.len
     have hrs:=hs.rs
     have hlt:=hs.lt
     have hr1:0≤s2.rst∧s2.rst<LIM:=by
      rw [hrst];unfold LIM
      rcases hrs with ⟨a1,a2⟩|⟨a1,a2⟩<;>omega
     rw [if_pos ⟨by omega,by unfold LIM;omega,hr1.1,hr1.2⟩]
     have key:∀acty:List Int,acty.length=B→∃s4 r,(if s2.rst≤(conf:Int)+1 then
       match backF f { s2 with acty:=acty,rst:=s2.rst+((conf:Int)+1) / 2 } 0 with
       | none=>none
       | some s4=>wW f fuel ((conf:Int)+1) s4
       else wW f fuel ((conf:Int)+1) { s2 with acty:=acty })=some (s4,r)∧((r = -1∧ModelOk f B s4.e.val)∨(∃c:Nat,r=c∧c<s4.e.cls.length∧s4.e.st=[]∧(∃x,x∈s4.e.cl c)∧(∀x∈s4.e.cl c, -x∈s4.e.tr)∧s4.e.cls.length≤base+2 * maxC B+B+1∧∃h Lo,SolI f f B N s4 h Lo)):=by
      intro acty hact
      have hcast:((conf:Int)+1)=((conf+1:Nat):Int):=by omega
      have hmul:((conf+1:Nat):Int) * B=(conf:Int) * B+B:=by rw [uT,Int.add_mul];simp
      have hLo:∀n:Nat,Lo2≤34603041 * (((conf+1:Nat):Int) * B+n):=fun n=>by
       rw [hmul]
       have:(s1.e.hd:Int)≤B:=by have:=k6.g.l.hd;omega
       have h9:34603041 * ((conf:Int) * B+s.e.hd)+34603041 * ((s1.e.hd:Int)-s.e.hd)=34603041 * ((conf:Int) * B+s1.e.hd):=by rw [←kG];congr 1;omega
       omega
      have hi2:SolI f f B N { s2 with acty:=acty } s2.e.hd Lo2:=⟨y2.i.g,y2.i.t,⟨y2.i.d.ol,y2.i.d.dv,y2.i.d.ul,hact,y2.i.d.un⟩⟩
      have meas:∀tl:Nat,(maxC B-(conf+1)) * (B+2)+(B-tl)<m:=fun tl=>by
       have h9:(maxC B-conf) * (B+2)=(maxC B-(conf+1)) * (B+2)+(B+2):=by
        rw [show maxC B-conf=(maxC B-(conf+1))+1 by omega,jU];simp
       omega
      by_cases hres:s2.rst≤(conf:Int)+1
      ·rw [if_pos hres]
       have hce:((conf:Int)+1)=s2.rst:=by rw [hrst] at hres ⊢;omega
       have hnew:conf+1≤3 * 2 ^ B+100∧100≤conf+1:=by
        rw [hrst] at hce
        rcases hrs with ⟨a1,a2⟩|⟨a1,a2⟩
        ·omega
        ·omega
       by_cases hst2:s2.e.st.length=0
       ·have hb:backF f { s2 with acty:=acty,rst:=s2.rst+((conf:Int)+1) / 2 } 0=some { s2 with acty:=acty,rst:=s2.rst+((conf:Int)+1) / 2 }:=by
         unfold backF
         rw [if_pos (by show s2.e.st.length≤0;omega)]
        rw [hb]
        simp only
        rw [hcast]
        obtain ⟨s4,r,z1,z2⟩:=ih fuel { s2 with acty:=acty,rst:=s2.rst+((conf+1:Nat):Int) / 2 } (conf+1) (conf+1) ⟨⟨hi2.g,⟨hi2.t.nl,hi2.t.al,hi2.t.cl,hi2.t.ar,hi2.t.ac,hi2.t.sat,fun v v0 v1=>⟨vL (jA (hLo _)) (hi2.t.lo v v0 v1).1,(hi2.t.lo v v0 v1).2⟩⟩,⟨hi2.d.ol,hi2.d.dv,hi2.d.ul,hi2.d.al,hi2.d.un⟩⟩,by omega, .inr ⟨hnew.2,by show s2.rst+_=_;rw [←hce];omega⟩,by show _<s2.rst+_;rw [←hce];omega,hnew.1,by show s2.e.cls.length≤base+2 * (conf+1)+unitsOf s2;omega⟩ (meas _) (by omega)
        exact ⟨s4,r,z1,z2⟩
       ·obtain ⟨f0,hf0⟩:∃f0,s2.e.st[0]? = some f0:=⟨_,List.getElem?_eq_getElem (by omega)⟩
        obtain ⟨s4,w1,w2,w3,w4,w5,w6,w7,w8,w9,w10,w11,w12⟩:=oN hq (s:={ s2 with acty:=acty,rst:=s2.rst+((conf:Int)+1) / 2 }) (h:=s2.e.hd) ⟨hi2.g,hi2.t,⟨hi2.d.ol,hi2.d.dv,hi2.d.ul,hi2.d.al,hi2.d.un⟩⟩ (fun s' h'=>(hi2.g.l.sl s' h').2) (level:=0) (first:=f0) hf0
        rw [w1]
        simp only
        rw [hcast]
        have w6':s4.e.cls=s2.e.cls:=w6
        have hu4:unitsOf s4=unitsOf s2:=by unfold unitsOf;rw [w10]
        have w12':s4.rst=s2.rst+((conf:Int)+1) / 2:=w12
        obtain ⟨s5,r,z1,z2⟩:=ih fuel s4 (conf+1) (conf+1) ⟨⟨w2.g,⟨w2.t.nl,w2.t.al,w2.t.cl,w2.t.ar,w2.t.ac,w2.t.sat,fun v v0 v1=>⟨vL (jA (hLo _)) (w2.t.lo v v0 v1).1,(w2.t.lo v v0 v1).2⟩⟩,w2.d⟩,by omega, .inr ⟨hnew.2,by rw [w12',←hce];omega⟩,by rw [w12',←hce];omega,hnew.1,by rw [w6',hu4];omega⟩ (meas _) (by omega)
        exact ⟨s5,r,z1,z2⟩
      ·rw [if_neg hres,hcast]
       obtain ⟨s4,r,z1,z2⟩:=ih fuel { s2 with acty:=acty } (conf+1) c0 ⟨⟨hi2.g,⟨hi2.t.nl,hi2.t.al,hi2.t.cl,hi2.t.ar,hi2.t.ac,hi2.t.sat,fun v v0 v1=>⟨vL (jA (hLo _)) (hi2.t.lo v v0 v1).1,(hi2.t.lo v v0 v1).2⟩⟩,hi2.d⟩,hph3,by show (c0=0∧s2.rst=100)∨_;rw [hrst];exact hrs,by show _<s2.rst;omega,hc0,by show s2.e.cls.length≤base+2 * (conf+1)+unitsOf s2;omega⟩ (meas _) (by omega)
       exact ⟨s4,r,z1,z2⟩
     by_cases h256:((conf:Int)+1) % 256=0
     ·have:=key (s2.acty.map fun x=>x.tdiv 2) (by rw [List.length_map];exact y2.i.d.al)
      rw [if_pos h256]
      exact this
     ·have:=key s2.acty y2.i.d.al
      rw [if_neg h256]
      exact this
end
section
variable {f:Form} {B N:Nat}
theorem pQ (hq:SolQ f B N) (hB:B≤24) {fuel:Nat} (hfu:(maxC B) * (B+2)+B+1+B+2+200 * 576460752303423488≤fuel):(∃val,solveF fuel wJ f=some (.inl val)∧ModelOk f B val)∨∃l,solveF fuel wJ f=some (.inr l)∧RefOk f l:=by
 have h2B:2 ^ B≤16777216:=qA (jF (by omega) hB) (by decide)
 have hmc:maxC B≤67108964:=by unfold maxC;omega
 have hbn:f.bools.toNat=B:=by have:=hq.b;omega
 have hnn:f.ints.toNat=N:=by have:=hq.n;omega
 obtain ⟨e1,c,q1,q2,q3⟩:=loadF_ok (f:=f) hq.bl f.clauses [] (Eng.new B) (Load.new f B) hq.cs
 have hcl:=hq.cl
 have hlen:e1.cls.length≤32768:=by simp [Eng.new] at q2;omega
 have hs0:(Sol.new f).e=Eng.new B:=by unfold Sol.new;rw [hbn]
 have hth:ThI f B N (Sol.new f).num (Sol.new f).arcs (Sol.new f).act [] 0:=by
  unfold Sol.new
  rw [hbn,hnn]
  refine ⟨by simp,by simp,by simp,fun y hy => ?_,fun v hv => ?_,fun a ha=>by simp at ha,fun v v0 v1 => ?_⟩
  ·rw [List.getD_eq_getElem?_getD,List.getElem?_replicate,if_pos hy];rfl
  ·rw [List.getD_eq_getElem?_getD,List.getElem?_replicate,if_pos hv];simp
  ·unfold gi
   rw [List.getD_eq_getElem?_getD,List.getElem?_map,vY (by omega)]
   have:=hq.nl
   simp only [vD,kE,Int.ofNat_eq_natCast]
   omega
 have hdv:∀{gs:List (List Int)},e1.inp.length=e1.cls.length→(∀c k,e1.inp[c]? = some k→∃g,gs[k]? = some g∧wJ g=some (e1.nmc c))→gs=f.clauses →
   DvI f B { Sol.new f with e:=e1,org:=e1.inp.map fun i=>⟨⟨1,(i:Nat),[],0,0,0⟩,0,[]⟩ }:=by
  intro gs h1 h2 h3
  subst h3
  refine ⟨by simp [h1],fun c o ho => ?_,by simp [Sol.new,hbn],by simp [Sol.new,hbn],fun v hv => .inl ?_⟩
  ·have ho2:(e1.inp.map fun (i:Nat)=>(⟨⟨1,(i:Int),[],0,0,0⟩,0,[]⟩:Org))[c]? = some o:=ho
   rw [List.getElem?_map] at ho2
   obtain ⟨k,hk,rfl⟩:=qR.1 ho2
   obtain ⟨g,g1,g2⟩:=h2 c k hk
   have hkl:=(zG.1 g1).1
   refine ⟨.inr (.inl rfl),fun _=>⟨by simp,g,by simpa using g1,g2⟩,fun h=>absurd h (by simp),fun h=>absurd h (by simp),fun h=>absurd h (by simp),by simp,by simp,fun _=>⟨rfl,rfl⟩,by simp,by simp,by simp,by simp only;omega,rfl,rfl,rfl⟩
  ·show (List.replicate f.bools.toNat (-1:Int)).getD v 0 = -1
   rw [List.getD_eq_getElem?_getD,List.getElem?_replicate,if_pos (by omega)];rfl
 have hrun:solveF fuel wJ f=(if c<0 then
   match wW f fuel 0 { Sol.new f with e:=e1,org:=e1.inp.map fun i=>⟨⟨1,(i:Nat),[],0,0,0⟩,0,[]⟩ } with
   | none=>none
   | some (s2,c2)=>if c2<0 then some (.inl s2.e.val) else (refuteF fuel s2 c2.toNat).map .inr
  else (refuteF fuel { Sol.new f with e:=e1,org:=e1.inp.map fun i=>⟨⟨1,(i:Nat),[],0,0,0⟩,0,[]⟩ } c.toNat).map .inr):=by
  unfold solveF
  simp only
  rw [hs0]
  have:gM wJ 0 f.clauses (Eng.new B)=some (e1,c):=q1
  rw [this]
  rfl
 rw [hrun]
 rcases q3 with ⟨rfl,hL⟩|⟨c,rfl,c1,c2,c3,c4,c5,c6,c7⟩
 ·rw [if_pos (by decide)]
  rw [xL] at hL
  have hi:EngI f B e1 e1.hd:=by rw [hL.hd];exact hL.i
  have hsol:SolI f f B N { Sol.new f with e:=e1,org:=e1.inp.map fun i=>⟨⟨1,(i:Nat),[],0,0,0⟩,0,[]⟩ } e1.hd (34603041 * (((0:Nat):Int) * B+e1.hd)):=by
   refine ⟨hi,?_,hdv hL.il hL.ip rfl⟩
   show ThI f B N (Sol.new f).num (Sol.new f).arcs (Sol.new f).act (e1.tr.take e1.hd) _
   rw [hL.hd,uD]
   simpa using hth
  obtain ⟨s2,r,z1,z2⟩:=sC hq hB (base:=e1.cls.length) (by omega) ((maxC B) * (B+2)+B+1) fuel { Sol.new f with e:=e1,org:=e1.inp.map fun i=>⟨⟨1,(i:Nat),[],0,0,0⟩,0,[]⟩ } 0 0
   ⟨hsol,zQ _, .inl ⟨rfl,rfl⟩,by simp [Sol.new],zQ _,by show e1.cls.length≤_;omega⟩ (by simp only [Nat.sub_zero];omega) (by omega)
  have z1':wW f fuel 0 { Sol.new f with e:=e1,org:=e1.inp.map fun i=>⟨⟨1,(i:Nat),[],0,0,0⟩,0,[]⟩ }=some (s2,r):=z1
  rw [z1']
  rcases z2 with ⟨rfl,hm⟩|⟨c,rfl,k1,k2,⟨x,k3⟩,k4,k5,h,Lo,k6⟩
  ·exact .inl ⟨s2.e.val,rfl,hm⟩
  ·right
   obtain ⟨l,l1,l2⟩:=lR hq k6 k2 k1 k4 (by
    have h1:s2.e.cls.length+B+2≤140000000:=by omega
    have h2:2 * B+1≤49:=by omega
    have:=jE h1 h2
    unfold LIM;omega) (fun e=>by rw [e] at k3;simp at k3) (fuel:=fuel) (by omega)
   refine ⟨l,?_,l2⟩
   simp only
   rw [if_neg (by omega),Int.toNat_natCast,l1];rfl
 ·rw [if_neg (by omega)]
  right
  have hsol:SolI f (f.with []) B N { Sol.new f with e:=e1,org:=e1.inp.map fun i=>⟨⟨1,(i:Nat),[],0,0,0⟩,0,[]⟩ } 0 0:=by
   refine ⟨c4,?_,hdv c6 c7 (by simp)⟩
   show ThI f B N (Sol.new f).num (Sol.new f).arcs (Sol.new f).act (e1.tr.take 0) _
   rw [uD]
   exact hth
  obtain ⟨l,l1,l2⟩:=lR hq hsol c2 (c:=c) (by show c<e1.cls.length;omega) c5 (by
    show (e1.cls.length+B+2) * (2 * B+1)<LIM
    have h1:e1.cls.length+B+2≤140000000:=by omega
    have h2:2 * B+1≤49:=by omega
    have:=jE h1 h2
    unfold LIM;omega) (fun _=>⟨c1,⟨⟨1,((e1.inp.getD c 0:Nat):Int),[],0,0,0⟩,0,[]⟩,by
     show (e1.inp.map fun (i:Nat)=>(⟨⟨1,(i:Int),[],0,0,0⟩,0,[]⟩:Org))[c]? = _
     rw [List.getElem?_map,List.getD_eq_getElem?_getD,List.getElem?_eq_getElem (show c<e1.inp.length by omega)]
     rfl,by simp⟩) (fuel:=fuel) (by omega)
  exact ⟨l,by rw [Int.toNat_natCast,l1];rfl,l2⟩
theorem solveF_ok (hq:SolQ f B N) (hB:B≤24):∃fuel,(∃val,solveF fuel wJ f=some (.inl val)∧ModelOk f B val)∨∃l,solveF fuel wJ f=some (.inr l)∧RefOk f l :=
 ⟨_,pQ hq hB (Nat.le_refl _)⟩
end
end Go.Proofs.Yticieifacalocaa
