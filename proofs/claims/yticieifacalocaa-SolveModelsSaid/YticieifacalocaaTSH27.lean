/- SolFals -/
import Derived.Test.YticieifacalocaaTSH26
namespace Go.Proofs.Yticieifacalocaa
open Go.RowKit
theorem falsF_step {lit:Int} {e e2:Eng} {c:Nat} {rest ks:List Nat} {r:Int} (h:gR lit e (c::rest) ks=some (e2,r)):e.clOk c=true∧∀e1,e1=(if (e.cl c).getD 0 0=lit then e.swap c 0 1 else e) →
  ((tv e1.val ((e1.cl c).getD 0 0)≤0∧∃i,openAt e1.val (e1.cl c) 2=some i∧(e1.cl c).getD i 0≠lit∧(e1.wat ((e1.cl c).getD i 0)).length<LIM∧gR lit (e1.moved c i) rest ks=some (e2,r)) ∨
  (tv e1.val ((e1.cl c).getD 0 0)=0∧openAt e1.val (e1.cl c) 2=none∧e1.tr.length<LIM∧gR lit (e1.assign ((e1.cl c).getD 0 0) c) rest (ks++[c])=some (e2,r)) ∨
  (tv e1.val ((e1.cl c).getD 0 0)<0∧openAt e1.val (e1.cl c) 2=none∧e2={ e1 with wat:=upd e1.wat lit (ks++[c]++rest) }∧r=c) ∨
  (0<tv e1.val ((e1.cl c).getD 0 0)∧gR lit e1 rest (ks++[c])=some (e2,r))):=by
 rw [gR] at h
 by_cases hok:e.clOk c=true
 ·rw [if_pos hok] at h
  refine ⟨hok,fun e1 he1 => ?_⟩
  simp only [←he1] at h
  by_cases hv:tv e1.val ((e1.cl c).getD 0 0)≤0
  ·rw [if_pos hv] at h
   cases ho:openAt e1.val (e1.cl c) 2 with
   | some i =>
    rw [ho] at h
    simp only at h
    split at h
    ·rename_i hc
     exact .inl ⟨hv,i,rfl,hc.1,hc.2,h⟩
    ·cases h
   | none =>
    rw [ho] at h
    simp only at h
    by_cases h0:tv e1.val ((e1.cl c).getD 0 0)=0
    ·rw [if_pos h0] at h
     split at h
     ·rename_i hc
      exact .inr (.inl ⟨h0,rfl,hc,h⟩)
     ·cases h
    ·rw [if_neg h0] at h
     injection h with h
     injection h with h1 h2
     exact .inr (.inr (.inl ⟨by omega,rfl,h1.symm,h2.symm⟩))
  ·rw [if_neg hv] at h
   exact .inr (.inr (.inr ⟨by omega,h⟩))
 ·rw [if_neg hok] at h;cases h
theorem gF {P:Program} {κ:Kap} {s0:Col} (w:World) {ops:Array Oper} {rest:List Oper} {o:Oper} {a:Act} {Q:Exit→Act→World→Prop}
  (hg:o.guard=none) (s x:Operand) (t:TypeId) (hop:o.op=Op.call { callee:=Callee.builtin Builtin.append,args := #[s,x],argTypes := #[t,t] })
  (e:TypeId) (i:TypeInfo) (h1:P.underlying t=some (.slice e)) (h2:P.info? e=some i) (h4:i.size=1)
  (g k n cap:Nat) (xs:List Value) (hs:a.eval s = .slice (some ⟨g,0,none⟩) k cap) (hh:Hold κ w s0 e 1 (.slice (some ⟨g,0,none⟩) n cap) n xs) (ad:Addr) (m c:Nat) (news:List Value) (hx:a.eval x = .slice (some ad) m c) (hn:news.length=m)
  (hc:∀j u,news[j]? = some u→w.cell? (ad.add j)=some u) (h1c:∀u∈news,u.oneCell'=true) (b1:k+m≤n)
  (hK:∀w',Hold κ w' s0 e 1 (.slice (some ⟨g,0,none⟩) n cap) n (xs.take k++news++xs.drop (k+m))→w.grownBy w' (some g)→wpList P ops Q rest (a.put o.dst (.slice (some ⟨g,0,none⟩) (k+m) cap)) w') :
  wpList P ops Q (o::rest) a w:=by
 have hko:=hh.k
 rcases hh.o.2 with ⟨h0,_⟩|⟨g',cap',cur,hv,hg0,hgg,hnc,hcm,hcs,htake⟩
 ·cases h0
 ·cases hv
  rw [yA] at htake hcs
  have hxl:xs.length=n:=by have:=hh.o.1;omega
  refine uS hg fun K' hK' => ?_
  have hr:=run_append_room (P:=P) w t o.type e i h1 h2 g k cap cur hgg ad m c news (by rw [hn,h4];omega) hc h1c (by omega) (by rw [hn,h4,hcs];omega)
  unfold Oper.wp
  simp [execOp,hop,resolve,invoke,builtin,hs,hx,hr,Result.andThen]
  refine hK' _ _ (hK _ ⟨⟨?_, .inr ⟨g,cap,_,rfl,zQ _,vJ w g cur _ e _ hgg,hnc,hcm,?_,?_⟩⟩,hko⟩ ⟨rfl,rfl,rfl,by simp,fun j _ hj=>vP w g j _ (fun e=>hj (by simp [e]))⟩)
  ·simp only [zJ,qO,yH,hn,hxl];omega
  ·simp only [List.size_toArray,zJ,qO,yH,Array.length_toList,hn,h4,hcs];omega
  ·rw [h4,hn]
   simp only [yA]
   have hcl:cur.toList.length=cap:=by simpa using hcs
   rw [←htake,yY,yG (by omega),List.drop_take]
   simp only [qB]
   rw [List.take_append,yY,Nat.min_eq_right (show k≤n by omega),qO,yG (show k≤cur.toList.length by omega),List.take_append,zU (show news.length≤n-k by omega),hn,show n-k-m=n-(k+m) by omega]
theorem mZ (b o n c k:Nat) (l:Int) (hl:l=(k:Int)) (hk:k≤n) (hn:n≤c) :
  ∃ad,(∀w,(Instr.slice 33 (.slice (some ⟨b,o,none⟩) n c) (some (.int .i64 l)) none none).run Try.prog w = .ok (.slice (some ad) (n-k) (c-k)) w)∧(k<n→ad=⟨b,o+k,none⟩):=by
 subst hl
 refine ⟨if c=k then ⟨b,o,none⟩ else ⟨b,o+k,none⟩,fun w => ?_,fun h=>by rw [if_neg (by omega)]⟩
 have hadd:(⟨b,o,none⟩:Addr).add k=⟨b,o+k,none⟩:=by
  unfold Addr.add
  split
  ·rename_i h;subst h;rfl
  ·rfl
 rw [run_slice_l (P:=Try.prog) (w:=w) 33 _ n c (by kernel_rfl) .i64 (k:Int) (by omega) (by omega),show (sizeOf (Try.prog.elem 33)).run Try.prog w = .ok 1 w by kernel_rfl]
 simp only [Result.andThen,sliced,Int.toNat_natCast,yA,vD,hadd]
 split<;>rfl
section
variable {κ:Kap} {w:World} {g:Nat} {t:TypeId} {rest:List Value} {x:Int} {e:Eng} {V:EV}
structure FalS (κ:Kap) (w:World) (g:Nat) (t:TypeId) (rest:List Value) (lit:Int) (A:Option Addr) (cap:Nat) (list:List Nat) (N e0:Nat) (n:Nat) (ks:List Nat) (ek:Eng) (κ':Kap) (wr:World) (V':EV):Prop where
 e:EngM κ' wr g t rest lit ek V'
 mv:V'.mv lit = .slice A list.length cap
 h:∃mid:List Value,mid.length+ks.length=n∧Hold κ' wr (.wt lit) 3 1 (.slice A list.length cap) list.length (cn ks++mid++cn (list.drop n))
 f:Fr κ κ' w wr wK
 c:ek.cls.length=N
 vl:ek.val.length=e0
def FalR (κ:Kap) (w:World) (g:Nat) (t:TypeId) (rest:List Value) (lit:Int) (A:Option Addr) (cap:Nat) (list:List Nat) (N e0:Nat) (e2:Eng) (r:Int) (n:Nat) (ks:List Nat) (wr:World):Prop :=
 ∃ek κ' V',gR lit ek (list.drop n) ks=some (e2,r)∧FalS κ w g t rest lit A cap list N e0 n ks ek κ' wr V'
theorem pS {lit:Int} {c:Nat}:¬mJ lit c (.wt lit):=fun h=>h rfl
theorem rG {lit:Int}:¬cQ (.wt lit):=fun h=>h
theorem EngM.frX {κ κ':Kap} {w w':World} (h:EngM κ w g t rest x e V) (f:Fr κ κ' w w' (fun s=>s = .wt x)):EngM κ' w' g t rest x e V :=
 ⟨h.blk.fr f (by simp),h.cls.fr f (by simp),fun c u hu=>(h.cl c u hu).fr f (by simp),h.inp.fr f (by simp),h.val.fr f (by simp),h.rsn.fr f (by simp),h.lvl.fr f (by simp),h.rl,h.ll,h.tr.fr f (by simp),h.st.fr f (by simp),h.wat.fr f (by simp),
  fun l hl h0=>(h.wt l hl h0).fr f (by simp [hl]),h.B,h.v3⟩
theorem cB (ks list:List Nat) (mid:List Value) {n c:Nat} (hm:mid.length+ks.length=n) (hc:list[n]? = some c) :
  ∃mid2:List Value,mid2.length+(ks++[c]).length=n+1∧(cn ks++mid++cn (list.drop n)).take ks.length++[Value.int .i64 (c:Int)]++(cn ks++mid++cn (list.drop n)).drop (ks.length+1)=cn (ks++[c])++mid2++cn (list.drop (n+1)):=by
 have hd:list.drop n=c::list.drop (n+1):=by
  obtain ⟨h1,h2⟩:=zG.1 hc
  rw [zT h1,h2]
 have hck:(cn ks).length=ks.length:=gP ks
 refine ⟨(mid++[Value.int .i64 (c:Int)]).drop 1,by simp;omega,?_⟩
 have h1:(cn ks++mid++cn (list.drop n)).take ks.length=cn ks:=by
  rw [qB,←hck];exact xH
 have h2:(cn ks++mid++cn (list.drop n)).drop (ks.length+1)=(mid++[Value.int .i64 (c:Int)]).drop 1++cn (list.drop (n+1)):=by
  rw [qB,←hck,←List.drop_drop,List.drop_left,hd]
  have:cn (c::list.drop (n+1))=[Value.int .i64 (c:Int)]++cn (list.drop (n+1)):=rfl
  rw [this,←qB]
  rw [vU (by simp)]
 rw [h1,h2,nR]
 simp only [qB]
theorem row_at (ks list:List Nat) (mid:List Value) {n c:Nat} (hm:mid.length+ks.length=n) (hc:list[n]? = some c):(cn ks++mid++cn (list.drop n))[n]? = some (.int .i64 (c:Int)):=by
 have hck:(cn ks).length=ks.length:=gP ks
 rw [zL (by simp;omega)]
 have:n-(cn ks++mid).length=0:=by simp;omega
 rw [this]
 refine cn_at ?_
 rw [yW];exact hc
theorem row_keep (ks list:List Nat) (mid:List Value):(cn ks++mid++cn list).take (ks.length * 1)=cn ks:=by
 rw [qB,yA,←gP ks];exact xH
theorem EngM.open1 (h:EngM κ w g t rest 0 e V) (l:Int):EngM κ w g t rest l e V :=
 ⟨h.blk,h.cls,h.cl,h.inp,h.val,h.rsn,h.lvl,h.rl,h.ll,h.tr,h.st,h.wat,fun j _ j0=>h.wt j j0 j0,h.B,h.v3⟩
theorem EngM.stored {κ:Kap} {w w2:World} {v':Value} (h:EngM κ w g t rest x e V) {l:List Nat} (hx:Hold κ w (.wt x) 3 1 v' l.length (cn l)) (hm:MapC κ w2 V.bm e.val.length (updV V.mv x v')) (hg:w.grownBy w2 (some V.bm)) :
  EngM κ w2 g t rest 0 { e with wat:=upd e.wat x l } { V with mv:=updV V.mv x v' }∧Fr κ κ w w2 (fun s=>s = .wat):=by
 have f:Fr κ κ w w2 (fun s=>s = .wat):=Fr.grown κ hg hm.k rfl
 refine ⟨⟨h.blk.fr f (by simp),h.cls.fr f (by simp),fun c u hu=>(h.cl c u hu).fr f (by simp),h.inp.fr f (by simp),h.val.fr f (by simp),h.rsn.fr f (by simp),h.lvl.fr f (by simp),h.rl,h.ll,h.tr.fr f (by simp),h.st.fr f (by simp),hm,fun j _ j0 => ?_,h.B,h.v3⟩,f⟩
 show Hold κ w2 (.wt j) 3 1 (updV V.mv x v' j) (upd e.wat x l j).length (cn (upd e.wat x l j))
 unfold updV upd
 by_cases e1:j=x
 ·subst e1;rw [if_pos rfl,if_pos rfl];exact hx.fr f (by simp)
 ·rw [if_neg e1,if_neg e1];exact (h.wt j e1 j0).fr f (by simp)
set_option maxRecDepth 100000 in
set_option maxHeartbeats 8000000 in
theorem fS (h:EngM κ w g t rest 0 e V) {lit:Int} (hl:litB e.val.length lit=true) (hcl:e.cls.length≤LIM) {e2:Eng} {r:Int} (hf:gR lit e (e.wat lit) []=some (e2,r)) :
  Calls Try.prog 62 #[.pointer (some ⟨g,0,none⟩), .int .i64 lit] w (fP κ w g t rest 0 wK (.int .i64 r) e2):=by
 obtain ⟨iI,hiI,hzI0,hzI1,hzI2⟩:=qD wV
 obtain ⟨l0,l1⟩:=wN hl
 have hi:=wZ (by have:=h.B;omega) hl
 have HH:=h.wt lit l0 l0
 obtain ⟨A,cap,hml,hle,hcm⟩:=HH.shape
 rw [hml] at HH
 have hlk:(Instr.lookup 80 (.map (some V.bm)) (.int .i64 lit) false).run Try.prog w = .ok (.slice A (e.wat lit).length cap) w:=by
  have:=h.wat.look (k:=lit) (by omega) (by omega)
  rw [hml] at this;exact this
 have hs0:∀W,(Instr.slice 33 (.slice A (e.wat lit).length cap) none (some (.int .i64 0)) none).run Try.prog W = .ok (.slice A 0 cap) W:=fun W=>by
  rw [run_slice_h (P:=Try.prog) (w:=W) 33 A (e.wat lit).length cap (by kernel_rfl) .i64 0 (by omega) (by omega),show (sizeOf (Try.prog.elem 33)).run Try.prog W = .ok 1 W by kernel_rfl]
  cases A<;>simp [Result.andThen,sliced,Addr.add]
 have q2:=h.cellE (i:=2) rfl
 have HLB:=Lib.hid hl
 have HF0:=Lib.hid hf
 have HS0:Hid (FalS κ w g t rest lit A cap (e.wat lit) e.cls.length e.val.length 0 [] e κ w V):=Lib.hid ⟨h.open1 lit,hml,⟨[],rfl,by exact HH⟩,Fr.refl _ _ _,rfl,rfl⟩
 have HBV:Hid (e.val.length≤1024):=Lib.hid h.B
 have HCL:=Lib.hid hcl
 unfold maxLen at hcm
 generalize hlist:e.wat lit=list at *
 clear h hl hf HH hml hcl hlist
 go_enter Try.func62,Try.ntmps62
 go_wp2_with fail
 clear hlk hs0 q2
 go_loopw [6,20] (fun kv i wr=>∃(n:Nat) (ks:List Nat),n≤list.length∧i = .int .i64 n∧kv = .slice A ks.length cap∧FalR κ w g t rest lit A cap list e.cls.length e.val.length e2 r n ks wr) (fun _ i _=>list.length-(intOf i).toNat)
 case atStart=>exact ⟨0,[],by omega,rfl,rfl,e,κ,V,HF0.out,HS0.out⟩
 case round =>
  obtain ⟨n,ks,hn,rfl,rfl,ek,κ1,V1,hfal,hS⟩:=hrel
  have HFAL:=Lib.hid hfal
  have HS:=Lib.hid hS
  clear hfal hS HF0 HS0
  obtain ⟨mid,hmid,hH⟩:=HS.out.h
  have HVL:Hid (ek.val.length=e.val.length):=Lib.hid HS.out.vl
  have HMID:=Lib.hid hmid
  by_cases hlt:n<list.length
  ·obtain ⟨gb,cap2,e1,kgb,gbl,hlc,hcm2,hcc,hz⟩:=hH.open_ (by omega)
   injection e1 with e1 _ e3
   subst e1 e3
   obtain ⟨c,hc⟩:∃c,list[n]? = some c:=⟨_,List.getElem?_eq_getElem hlt⟩
   have qn:=hcc n _ (row_at ks list mid hmid hc)
   have HC:=Lib.hid hc
   have HH:=Lib.hid hH
   have hdr:list.drop n=c::list.drop (n+1):=by
    obtain ⟨h1,h2⟩:=zG.1 hc
    rw [zT h1,h2]
   obtain ⟨hok,hst⟩:=falsF_step (by rw [←hdr];exact HFAL.out)
   have HST:=Lib.hid hst
   obtain ⟨hok1,hok2,hok3⟩:c<ek.cls.length∧2≤(ek.cl c).length∧∀y∈ek.cl c,litB ek.val.length y=true:=by
    unfold Eng.clOk at hok
    simp only [xE,qI,qH] at hok
    exact ⟨hok.1.1,hok.1.2,hok.2⟩
   have HOK:=Lib.hid hok3
   have HE:=Lib.hid HS.out.e
   have hcu:V1.us.length=ek.cls.length:=by have:=HE.out.cls.o.1;omega
   obtain ⟨u,hu⟩:∃u,V1.us[c]? = some u:=⟨_,List.getElem?_eq_getElem (by omega)⟩
   obtain ⟨gc,capc,rfl,kc,gcl,hcap,hcm3, -, -⟩:=(HE.out.cl c u hu).open_ (by omega)
   obtain ⟨gs,caps,hvs,ks2,gsl,hscap,hsm,hsc, -⟩:=HE.out.cls.open_ (by omega)
   have q0:=HE.out.cellE (i:=0) rfl
   rw [hvs] at q0
   have qc:=hsc c _ hu
   have HU:=Lib.hid hu
   have y1:(c:Int)<(ek.cls.length:Int):=by omega
   have y2:(n:Int)<(list.length:Int):=by omega
   obtain ⟨p0,hp0⟩:∃p,(ek.cl c).getD 0 0=p:=⟨_,rfl⟩
   obtain ⟨p1,hp1⟩:∃p,(ek.cl c).getD 1 0=p:=⟨_,rfl⟩
   obtain ⟨qa,za⟩:=HE.out.clAt hu (j:=0) (by omega)
   obtain ⟨qb,zb⟩:=HE.out.clAt hu (j:=1) (by omega)
   rw [hp0] at qa
   rw [hp1] at qb
   generalize hLc:(ek.cl c).length=Lc at *
   have HLC:=Lib.hid hLc
   have y3:(1:Int)<(Lc:Int):=by omega
   unfold maxLen at hsm hcm3
   have HOKB:=Lib.hid hok1
   have HP0:=Lib.hid hp0
   have HP1:=Lib.hid hp1
   have HCN:Hid (ek.cls.length=e.cls.length):=Lib.hid HS.out.c
   clear hcc hz hc hdr hok hst hok1 hok3 hcu hu hvs hsc hH hLc hmid kgb gbl kc gcl ks2 gsl
   by_cases h0:p0=lit
   ·have hq:(p0 == lit)=true:=by simpa using h0
    have hq2:decide (p0=lit)=true:=by simpa using h0
    have HIF:Hid ((if (ek.cl c).getD 0 0=lit then ek.swap c 0 1 else ek)=ek.swap c 0 1):=by refine Lib.hid ?_;rw [HP0.out,if_pos h0]
    clear h0 hp0 hp1
    go_upto_region 8 with fail
    clear hq hq2 qn q0 qc
    have HE1:Hid (EngM κ1 ((wr.setCell ⟨gc,0,none⟩ (.int .i64 p1)).setCell ⟨gc,1,none⟩ (.int .i64 p0)).drew g t rest lit (ek.swap c 0 1) V1):=by
     refine Lib.hid ?_
     have h9:=((HE.out.setCl HU.out 0 p1).setCl HU.out 1 p0).drewN 1
     rw [←Eng.swap_set HOKB.out,HP0.out,HP1.out]
     exact h9
    have hkc:=(HE.out.cl c _ HU.out).k gc rfl
    have f1:Fr κ1 κ1 wr (wr.setCell ⟨gc,0,none⟩ (.int .i64 p1)) (fun s=>s = .cl c):=Fr.set κ1 wr hkc rfl
    have f2:Fr κ1 κ1 (wr.setCell ⟨gc,0,none⟩ (.int .i64 p1)) ((wr.setCell ⟨gc,0,none⟩ (.int .i64 p1)).setCell ⟨gc,1,none⟩ (.int .i64 p0)) (fun s=>s = .cl c):=Fr.set κ1 _ hkc rfl
    have HFW:Hid (Fr κ1 κ1 wr ((wr.setCell ⟨gc,0,none⟩ (.int .i64 p1)).setCell ⟨gc,1,none⟩ (.int .i64 p0)).drew (fun s=>s = .cl c)):=Lib.hid ((f1.trans f2).trans (Fr.drew _ _ _))
    clear f1 f2 hkc
    go_region
    clear qa za qb zb
    generalize ((wr.setCell ⟨gc,0,none⟩ (.int .i64 p1)).setCell ⟨gc,1,none⟩ (.int .i64 p0)).drew=W1 at *
    have HHW:Hid (Hold κ1 W1 (.wt lit) 3 1 (.slice (some ⟨gb,0,none⟩) list.length cap) list.length (cn ks++mid++cn (list.drop n))):=Lib.hid (HH.out.fr HFW.out (by simp))
    have HFT:Hid (Fr κ κ1 w W1 wK):=Lib.hid (HS.out.f.trans (HFW.out.mono fun s hs=>by subst hs;trivial))
    have HV1:Hid ((ek.swap c 0 1).val.length=e.val.length):=HVL
    have hst2:=HST.out (ek.swap c 0 1) HIF.out.symm
    have hlen1:((ek.swap c 0 1).cl c).length=Lc:=by rw [Eng.cl_swap HOKB.out,if_pos rfl,cH];exact HLC.out
    have hq0:((ek.swap c 0 1).cl c).getD 0 0=p1:=by rw [Eng.cl_swap HOKB.out,if_pos rfl,swp_get (by rw [HLC.out];omega) (by rw [HLC.out];omega),if_neg (by omega),if_pos rfl];exact HP1.out
    have hlits:∀y∈(ek.swap c 0 1).cl c,litB (ek.swap c 0 1).val.length y=true:=by intro y hy;rw [Eng.cl_swap HOKB.out,if_pos rfl] at hy;exact HOK.out y ((eR (by rw [HLC.out];omega) (by rw [HLC.out];omega)).mem_iff.1 hy)
    have hq0l:litB (ek.swap c 0 1).val.length p1=true:=by rw [←hq0];exact hlits _ (getD_mem (by omega))
    have HTR:=Lib.hid (fun W (hW:EngM κ1 W g t rest lit (ek.swap c 0 1) V1)=>dN hW hq0l)
    have HT0:=Lib.hid (dN HE1.out hq0l)
    have qd:=(HE1.out.clAt HU.out (j:=0) (by omega)).1
    rw [hq0] at qd hst2
    have hthree:tv (ek.swap c 0 1).val p1=0∨tv (ek.swap c 0 1).val p1=1∨tv (ek.swap c 0 1).val p1 = -1:=by have h9:=HE1.out.v3 (vr p1);unfold tv;split<;>omega
    have HCLS:Hid ((ek.swap c 0 1).cls.length=e.cls.length):=by refine Lib.hid ?_;rw [←HCN.out];simp [Eng.swap]
    have HMV:Hid (V1.mv lit = .slice (some ⟨gb,0,none⟩) list.length cap):=Lib.hid HS.out.mv
    have HQ0:=Lib.hid hq0
    have HLITS:=Lib.hid hlits
    have HLEN1:=Lib.hid hlen1
    generalize hyv:tv (ek.swap c 0 1).val p1=y at *
    have HYV:=Lib.hid hyv
    clear hq0 hlits hq0l hlen1 hyv HIF HST HS HH HFW
    rcases hst2 with ⟨hy0,i,ho,hx1,hx2,hfn⟩|⟨hy0,ho,htl,hfn⟩|⟨hy0,ho,he2,hr⟩|⟨hy0,hfn⟩
    ·
     have hb1:decide (y≤0)=true:=by simpa using hy0
     have HMO:Hid (∀m,Calls Try.prog 85 #[.pointer (some ⟨g,0,none⟩), .int .i64 (c:Int)] (W1.drewN m) (MoveRet κ1 (W1.drewN m) g t rest lit c V1 (ek.swap c 0 1))):=Lib.hid fun m =>
      bZ (HE1.out.drewN m) (by rw [HCLS.out,←HCN.out];exact HOKB.out) (by rw [HLEN1.out];omega) (by have:=HCL.out;have:=HOKB.out;have:=HCN.out;unfold LIM at *;omega) HLITS.out (fun j hj=>by rw [ho] at hj;injection hj with hj;subst hj;exact ⟨hx1,hx2⟩)
     have HO:=Lib.hid ho
     have HFN:=Lib.hid hfn
     clear hy0 ho hx1 hx2 hfn hthree
     go_wp2_with fail
     refine HT0.out.mono ?_
     rintro en w1 ⟨rfl,n1,rfl⟩
     go_wp2_with fail
     refine (HMO.out n1).mono ?_
     rintro en w2 hret
     unfold MoveRet at hret
     rw [HO.out] at hret
     obtain ⟨rfl,κ2,V2,hE2,hF2,hmv2⟩:=hret
     have HS2:Hid (FalS κ w g t rest lit (some ⟨gb,0,none⟩) cap list e.cls.length e.val.length (n+1) ks ((ek.swap c 0 1).moved c i) κ2 w2 V2):=by
      refine Lib.hid ⟨hE2,hmv2.trans HMV.out,⟨mid++[.int .i64 (c:Int)],by have:=HMID.out;simp;omega,?_⟩,HFT.out.trans ((Fr.drewN _ _ _ _).trans (hF2.mono fun s hs=>rT hs)),?_,HVL.out⟩
      ·have h9:=(HHW.out.fr (Fr.drewN κ1 W1 n1 (fun _=>False)) id).fr hF2 pS
       have hd:cn (list.drop n)=[Value.int .i64 (c:Int)]++cn (list.drop (n+1)):=by
        obtain ⟨h1,h2⟩:=zG.1 HC.out
        rw [zT h1,h2];rfl
       rw [hd] at h9
       rw [show cn ks++(mid++[Value.int .i64 (c:Int)])++cn (list.drop (n+1))=cn ks++mid++([Value.int .i64 (c:Int)]++cn (list.drop (n+1))) by simp]
       exact h9
      ·rw [←HCLS.out];simp [Eng.moved,Eng.watch,Eng.swap]
     clear hE2 hF2 hmv2 HMO HT0 hb1
     go_wp2_with fail
     go_roundw
     case rel=>exact ⟨n+1,ks,by omega,by go_num,rfl,_,κ2,V2,HFN.out,HS2.out⟩
     case measure=>simp [intOf];omega
    ·
     obtain rfl:y=0:=hy0
     have HFN:=Lib.hid hfn
     have HTL:=Lib.hid htl
     clear hfn htl hthree
     have HMO:Hid (∀m,Calls Try.prog 85 #[.pointer (some ⟨g,0,none⟩), .int .i64 (c:Int)] (W1.drewN m) (MoveRet κ1 (W1.drewN m) g t rest lit c V1 (ek.swap c 0 1))):=Lib.hid fun m =>
      bZ (HE1.out.drewN m) (by rw [HCLS.out,←HCN.out];exact HOKB.out) (by rw [HLEN1.out];omega) (by have:=HCL.out;have:=HOKB.out;have:=HCN.out;unfold LIM at *;omega) HLITS.out (fun j hj=>by rw [ho] at hj;cases hj)
     have HO:=Lib.hid ho
     clear ho
     go_wp2_with fail
     refine HT0.out.mono ?_
     rintro en w1 ⟨rfl,n1,rfl⟩
     clear HT0
     go_wp2_with fail
     refine (HMO.out n1).mono ?_
     rintro en w2 hret
     unfold MoveRet at hret
     rw [HO.out] at hret
     obtain ⟨rfl,n2,rfl⟩:=hret
     clear HMO
     rw [kO]
     have HEX:Hid (EngM κ1 (W1.drewN (n1+n2)) g t rest lit (ek.swap c 0 1) V1):=Lib.hid (HE1.out.drewN _)
     have HHX:Hid (Hold κ1 (W1.drewN (n1+n2)) (.wt lit) 3 1 (.slice (some ⟨gb,0,none⟩) list.length cap) list.length (cn ks++mid++cn (list.drop n))):=Lib.hid (HHW.out.fr (Fr.drewN κ1 W1 (n1+n2) (fun _=>False)) id)
     have HFX:Hid (Fr κ κ1 w (W1.drewN (n1+n2)) wK):=Lib.hid (HFT.out.trans (Fr.drewN _ _ _ _))
     have B1:Hid (ks.length+1≤list.length):=Lib.hid (by have:=HMID.out;omega)
     have HOC:Hid (∀u∈([.int .i64 (c:Int)]:List Value),u.oneCell'=true):=Lib.hid (by intro u hu;simp at hu;subst hu;rfl)
     generalize (W1.drewN (n1+n2))=Wx at *
     clear HHW HFT HE1 qd
     go_wp2_with (at_builtin;refine gF (κ:=κ1) (s0 := .wt lit) _ rfl _ _ 33 rfl 3 iI Try.underlying33 hiI hzI1 gb ks.length list.length cap _ rfl (HHX.out.fr (Fr.alloc κ1 Wx _ (fun _=>False)) id) ⟨Wx.heap.size,0,none⟩ 1 1 [.int .i64 (c:Int)] rfl rfl (wR Wx _ _) HOC.out B1.out ?_)
     intro w5 hh5 hg5
     obtain ⟨mid2,hm2,hrow⟩:=cB ks list mid HMID.out HC.out
     have hh5:Hold κ1 w5 (.wt lit) 3 1 (.slice (some ⟨gb,0,none⟩) list.length cap) list.length (cn (ks++[c])++mid2++cn (list.drop (n+1))):=by rw [←hrow];simpa using hh5
     have f5:Fr κ1 κ1 (Wx.alloc (.cells #[.int .i64 (c:Int)] 3)) w5 (fun s=>s = .wt lit):=Fr.grown κ1 hg5 (HHX.out.k gb rfl) rfl
     have HE5:Hid (EngM κ1 w5 g t rest lit (ek.swap c 0 1) V1):=Lib.hid ((HEX.out.alloc _).frX f5)
     have HF5:Hid (Fr κ κ1 w w5 wK):=Lib.hid ((HFX.out.trans (Fr.alloc _ _ _ _)).trans (f5.mono fun s hs=>by subst hs;trivial))
     have HH5:=Lib.hid hh5
     have HM2:=Lib.hid hm2
     clear hh5 hg5 hm2 hrow f5 HEX HHX HFX B1
     have qd:=(HE5.out.clAt HU.out (j:=0) (by rw [HLEN1.out];omega)).1
     rw [HQ0.out] at qd
     go_wp2_with fail
     refine (HTR.out _ HE5.out).mono ?_
     rintro en w6 ⟨rfl,n6,rfl⟩
     have HAS:=Lib.hid (gO (HE5.out.drewN n6) (l:=p1) (r:=(c:Int)) (by have:=HLITS.out (((ek.swap c 0 1).cl c).getD 0 0) (getD_mem (by rw [HLEN1.out];omega));rw [HQ0.out] at this;exact this) HTL.out)
     go_wp2_with fail
     refine HAS.out.mono ?_
     rintro en w7 ⟨rfl,κ2,V2,hE7,hF7,hmv7,hus7⟩
     have HS2:Hid (FalS κ w g t rest lit (some ⟨gb,0,none⟩) cap list e.cls.length e.val.length (n+1) (ks++[c]) ((ek.swap c 0 1).assign p1 (c:Int)) κ2 w7 V2):=by
      refine Lib.hid ⟨hE7,by rw [hmv7];exact HMV.out,⟨mid2,HM2.out,(HH5.out.fr (Fr.drewN κ1 w5 n6 (fun _=>False)) id).fr hF7 rG⟩,(HF5.out.trans (Fr.drewN _ _ _ _)).trans (hF7.mono fun s hs=>gY hs),?_,by have h9:=HV1.out;simpa [Eng.assign] using h9⟩
      rw [←HCLS.out];rfl
     clear hE7 hF7 hmv7 hus7 HAS HE5 HF5 HH5 qd
     go_wp2_with fail
     go_roundw
     case rel=>exact ⟨n+1,ks++[c],by omega,by go_num,by simp,_,κ2,V2,HFN.out,HS2.out⟩
     case measure=>simp [intOf];omega
    ·
     obtain rfl:y = -1:=by omega
     have HR:Hid (r=(c:Int)):=Lib.hid hr
     have HE2:=Lib.hid he2
     clear hr he2 hthree hy0
     have HMO:Hid (∀m,Calls Try.prog 85 #[.pointer (some ⟨g,0,none⟩), .int .i64 (c:Int)] (W1.drewN m) (MoveRet κ1 (W1.drewN m) g t rest lit c V1 (ek.swap c 0 1))):=Lib.hid fun m =>
      bZ (HE1.out.drewN m) (by rw [HCLS.out,←HCN.out];exact HOKB.out) (by rw [HLEN1.out];omega) (by have:=HCL.out;have:=HOKB.out;have:=HCN.out;unfold LIM at *;omega) HLITS.out (fun j hj=>by rw [ho] at hj;cases hj)
     have HO:=Lib.hid ho
     clear ho
     go_wp2_with fail
     refine HT0.out.mono ?_
     rintro en w1 ⟨rfl,n1,rfl⟩
     clear HT0
     go_wp2_with fail
     refine (HMO.out n1).mono ?_
     rintro en w2 hret
     unfold MoveRet at hret
     rw [HO.out] at hret
     obtain ⟨rfl,n2,rfl⟩:=hret
     clear HMO
     rw [kO]
     have HEX:Hid (EngM κ1 (W1.drewN (n1+n2)) g t rest lit (ek.swap c 0 1) V1):=Lib.hid (HE1.out.drewN _)
     have HHX:Hid (Hold κ1 (W1.drewN (n1+n2)) (.wt lit) 3 1 (.slice (some ⟨gb,0,none⟩) list.length cap) list.length (cn ks++mid++cn (list.drop n))):=Lib.hid (HHW.out.fr (Fr.drewN κ1 W1 (n1+n2) (fun _=>False)) id)
     have HFX:Hid (Fr κ κ1 w (W1.drewN (n1+n2)) wK):=Lib.hid (HFT.out.trans (Fr.drewN _ _ _ _))
     have B1:Hid (ks.length+1≤list.length):=Lib.hid (by have:=HMID.out;omega)
     have HOC:Hid (∀u∈([.int .i64 (c:Int)]:List Value),u.oneCell'=true):=Lib.hid (by intro u hu;simp at hu;subst hu;rfl)
     generalize (W1.drewN (n1+n2))=Wx at *
     clear HHW HFT HE1 qd
     go_wp2_with (at_builtin;refine gF (κ:=κ1) (s0 := .wt lit) _ rfl _ _ 33 rfl 3 iI Try.underlying33 hiI hzI1 gb ks.length list.length cap _ rfl (HHX.out.fr (Fr.alloc κ1 Wx _ (fun _=>False)) id) ⟨Wx.heap.size,0,none⟩ 1 1 [.int .i64 (c:Int)] rfl rfl (wR Wx _ _) HOC.out B1.out ?_)
     intro w5 hh5 hg5
     obtain ⟨mid2,hm2,hrow⟩:=cB ks list mid HMID.out HC.out
     have hh5:Hold κ1 w5 (.wt lit) 3 1 (.slice (some ⟨gb,0,none⟩) list.length cap) list.length (cn (ks++[c])++mid2++cn (list.drop (n+1))):=by rw [←hrow];simpa using hh5
     have f5:Fr κ1 κ1 (Wx.alloc (.cells #[.int .i64 (c:Int)] 3)) w5 (fun s=>s = .wt lit):=Fr.grown κ1 hg5 (HHX.out.k gb rfl) rfl
     have HE5:Hid (EngM κ1 w5 g t rest lit (ek.swap c 0 1) V1):=Lib.hid ((HEX.out.alloc _).frX f5)
     have HF5:Hid (Fr κ κ1 w w5 wK):=Lib.hid ((HFX.out.trans (Fr.alloc _ _ _ _)).trans (f5.mono fun s hs=>by subst hs;trivial))
     have HH5:=Lib.hid hh5
     have HM2:=Lib.hid hm2
     clear hh5 hg5 hm2 hrow f5 HEX HHX HFX B1
     have qd:=(HE5.out.clAt HU.out (j:=0) (by rw [HLEN1.out];omega)).1
     rw [HQ0.out] at qd
     go_wp2_with fail
     refine (HTR.out _ HE5.out).mono ?_
     rintro en w6 ⟨rfl,n6,rfl⟩
     obtain ⟨ad,hsl,had⟩:=mZ gb 0 list.length cap (n+1) ((n:Int)+1) (by omega) (by omega) hle
     have HEY:Hid (EngM κ1 (w5.drewN n6) g t rest lit (ek.swap c 0 1) V1):=Lib.hid (HE5.out.drewN _)
     have HHY:Hid (Hold κ1 (w5.drewN n6) (.wt lit) 3 1 (.slice (some ⟨gb,0,none⟩) list.length cap) list.length (cn (ks++[c])++mid2++cn (list.drop (n+1)))):=Lib.hid (HH5.out.fr (Fr.drewN κ1 w5 n6 (fun _=>False)) id)
     have HFY:Hid (Fr κ κ1 w (w5.drewN n6) wK):=Lib.hid (HF5.out.trans (Fr.drewN _ _ _ _))
     generalize w5.drewN n6=Wy at *
     have HNEW:Hid (∀j u,(cn (list.drop (n+1)))[j]? = some u→Wy.cell? (ad.add j)=some u):=by
      refine Lib.hid fun j u hu => ?_
      have hjl:=(zG.1 hu).1
      rw [gP,yH] at hjl
      rw [had (by omega),qZ]
      obtain ⟨g9,c9,e9, -, -, -, -,hcc9, -⟩:=HHY.out.open_ (by omega)
      injection e9 with e9 _ _
      injection e9 with e9
      injection e9 with e9 _ _
      subst e9
      have hadd:(⟨gb,n+1,none⟩:Addr).add j=⟨gb,n+1+j,none⟩:=by
       unfold Addr.add
       split
       ·rename_i h;subst h;rfl
       ·rfl
      rw [hadd]
      refine hcc9 (n+1+j) u ?_
      have h8:(cn (ks++[c])++mid2).length=n+1:=by have:=HM2.out;simp [gP] at this ⊢;omega
      rw [zL (by omega),h8,show n+1+j-(n+1)=j by omega]
      exact hu
     have HNO:Hid (∀u∈cn (list.drop (n+1)),u.oneCell'=true):=Lib.hid (by intro u hu;unfold cn at hu;obtain ⟨z,_,rfl⟩:=List.mem_map.1 hu;rfl)
     have HNL:Hid ((cn (list.drop (n+1))).length=list.length-(n+1)):=Lib.hid (by rw [gP,yH])
     have B2:Hid (ks.length+1+(list.length-(n+1))≤list.length):=Lib.hid (by have:=HMID.out;omega)
     clear HE5 HH5 HF5 qd had
     go_wp2_with (at_builtin;refine gF (κ:=κ1) (s0 := .wt lit) _ rfl _ _ 33 rfl 3 iI Try.underlying33 hiI hzI1 gb (ks.length+1) list.length cap _ rfl HHY.out ad (list.length-(n+1)) (cap-(n+1)) (cn (list.drop (n+1))) rfl HNL.out HNEW.out HNO.out B2.out ?_)
     intro w7 hh7 hg7
     have f7:Fr κ1 κ1 Wy w7 (fun s=>s = .wt lit):=Fr.grown κ1 hg7 (HHY.out.k gb rfl) rfl
     have HE7:Hid (EngM κ1 w7 g t rest lit (ek.swap c 0 1) V1):=Lib.hid (HEY.out.frX f7)
     have HF7:Hid (Fr κ κ1 w w7 wK):=Lib.hid (HFY.out.trans (f7.mono fun s hs=>by subst hs;trivial))
     have HK7:Hid (Hold κ1 w7 (.wt lit) 3 1 (.slice (some ⟨gb,0,none⟩) (ks.length+1+(list.length-(n+1))) cap) (ks++[c]++list.drop (n+1)).length (cn (ks++[c]++list.drop (n+1)))):=by
      refine Lib.hid ?_
      have hlen:(ks++[c]++list.drop (n+1)).length=ks.length+1+(list.length-(n+1)):=by simp;omega
      have h6:Hold κ1 w7 (.wt lit) 3 1 (.slice (some ⟨gb,0,none⟩) list.length cap) list.length ((cn (ks++[c])++mid2++cn (list.drop (n+1))).take (ks.length+1)++cn (list.drop (n+1))++(cn (ks++[c])++mid2++cn (list.drop (n+1))).drop (ks.length+1+(list.length-(n+1)))):=by simpa using hh7
      have h9:=h6.cut B2.out rfl
      rw [hlen]
      have h5:(cn (ks++[c])++mid2++cn (list.drop (n+1))).take (ks.length+1)=cn (ks++[c]):=by
       rw [qB,show ks.length+1=(cn (ks++[c])).length by rw [gP];simp];exact xH
      have h4:cn (ks++[c]++list.drop (n+1))=cn (ks++[c])++cn (list.drop (n+1)):=by simp [cn]
      rw [h5,yA,zY (by rw [zJ,gP,gP,yH];simp),zU (by rw [zJ,gP,gP,yH];simp)] at h9
      rw [h4];exact h9
     obtain ⟨w8,hr8,hm8,hg8⟩:=HE7.out.wat.store (k:=lit) (v := .slice (some ⟨gb,0,none⟩) (ks.length+1+(list.length-(n+1))) cap) (by have:=HLB.out;rw [show (ek.swap c 0 1).val.length=e.val.length from HVL.out];exact this) (by have:=HE7.out.B;omega)
     have HFIN:=Lib.hid (HE7.out.stored HK7.out hm8 hg8)
     have q2:=HE7.out.cellE (i:=2) rfl
     clear hh7 hg7 f7 hm8 hg8 HEY HHY HFY
     go_wp2_with fail
     go_ret
     exact ⟨by rw [HR.out];rfl,κ1,{ V1 with mv:=updV V1.mv lit (.slice (some ⟨gb,0,none⟩) (ks.length+1+(list.length-(n+1))) cap) },by rw [HE2.out];exact HFIN.out.1,HF7.out.trans (HFIN.out.2.mono fun s hs=>by subst hs;trivial)⟩
    ·
     obtain rfl:y=1:=by omega
     have HFN:=Lib.hid hfn
     clear hfn hthree hy0
     go_wp2_with fail
     refine HT0.out.mono ?_
     rintro en w1 ⟨rfl,n1,rfl⟩
     clear HT0
     have HEX:Hid (EngM κ1 (W1.drewN n1) g t rest lit (ek.swap c 0 1) V1):=Lib.hid (HE1.out.drewN _)
     have HHX:Hid (Hold κ1 (W1.drewN n1) (.wt lit) 3 1 (.slice (some ⟨gb,0,none⟩) list.length cap) list.length (cn ks++mid++cn (list.drop n))):=Lib.hid (HHW.out.fr (Fr.drewN κ1 W1 n1 (fun _=>False)) id)
     have HFX:Hid (Fr κ κ1 w (W1.drewN n1) wK):=Lib.hid (HFT.out.trans (Fr.drewN _ _ _ _))
     have B1:Hid (ks.length+1≤list.length):=Lib.hid (by have:=HMID.out;omega)
     have HOC:Hid (∀u∈([.int .i64 (c:Int)]:List Value),u.oneCell'=true):=Lib.hid (by intro u hu;simp at hu;subst hu;rfl)
     generalize (W1.drewN n1)=Wx at *
     clear HHW HFT HE1 qd
     go_wp2_with (at_builtin;refine gF (κ:=κ1) (s0 := .wt lit) _ rfl _ _ 33 rfl 3 iI Try.underlying33 hiI hzI1 gb ks.length list.length cap _ rfl (HHX.out.fr (Fr.alloc κ1 Wx _ (fun _=>False)) id) ⟨Wx.heap.size,0,none⟩ 1 1 [.int .i64 (c:Int)] rfl rfl (wR Wx _ _) HOC.out B1.out ?_)
     intro w5 hh5 hg5
     obtain ⟨mid2,hm2,hrow⟩:=cB ks list mid HMID.out HC.out
     have hh5:Hold κ1 w5 (.wt lit) 3 1 (.slice (some ⟨gb,0,none⟩) list.length cap) list.length (cn (ks++[c])++mid2++cn (list.drop (n+1))):=by rw [←hrow];simpa using hh5
     have f5:Fr κ1 κ1 (Wx.alloc (.cells #[.int .i64 (c:Int)] 3)) w5 (fun s=>s = .wt lit):=Fr.grown κ1 hg5 (HHX.out.k gb rfl) rfl
     have HE5:Hid (EngM κ1 w5 g t rest lit (ek.swap c 0 1) V1):=Lib.hid ((HEX.out.alloc _).frX f5)
     have HF5:Hid (Fr κ κ1 w w5 wK):=Lib.hid ((HFX.out.trans (Fr.alloc _ _ _ _)).trans (f5.mono fun s hs=>by subst hs;trivial))
     have HH5:=Lib.hid hh5
     have HM2:=Lib.hid hm2
     clear hh5 hg5 hm2 hrow f5 HEX HHX HFX B1
     have qd:=(HE5.out.clAt HU.out (j:=0) (by rw [HLEN1.out];omega)).1
     rw [HQ0.out] at qd
     go_wp2_with fail
     refine (HTR.out _ HE5.out).mono ?_
     rintro en w6 ⟨rfl,n6,rfl⟩
     have HS2:Hid (FalS κ w g t rest lit (some ⟨gb,0,none⟩) cap list e.cls.length e.val.length (n+1) (ks++[c]) (ek.swap c 0 1) κ1 (w5.drewN n6) V1) :=
      Lib.hid ⟨HE5.out.drewN n6,HMV.out,⟨mid2,HM2.out,HH5.out.fr (Fr.drewN κ1 w5 n6 (fun _=>False)) id⟩,HF5.out.trans (Fr.drewN _ _ _ _),HCLS.out,HVL.out⟩
     clear HE5 HF5 HH5 qd
     go_wp2_with fail
     go_roundw
     case rel=>exact ⟨n+1,ks++[c],by omega,by go_num,by simp,_,κ1,V1,HFN.out,HS2.out⟩
     case measure=>simp [intOf];omega
   ·have hq:(p0 == lit)=false:=by simpa using h0
    have hq2:decide (p0=lit)=false:=by simpa using h0
    have HIF:Hid ((if (ek.cl c).getD 0 0=lit then ek.swap c 0 1 else ek)=ek):=by refine Lib.hid ?_;rw [HP0.out,if_neg h0]
    clear h0 hp0 hp1
    go_upto_region 9 with fail
    clear hq hq2 qn q0 qc qa za qb zb
    have HE1:=HE
    have HFW:Hid (Fr κ1 κ1 wr wr (fun s=>s = .cl c)):=Lib.hid (Fr.refl _ _ _)
    have HHW:Hid (Hold κ1 wr (.wt lit) 3 1 (.slice (some ⟨gb,0,none⟩) list.length cap) list.length (cn ks++mid++cn (list.drop n))):=Lib.hid (HH.out.fr HFW.out (by simp))
    have HFT:Hid (Fr κ κ1 w wr wK):=Lib.hid (HS.out.f.trans (HFW.out.mono fun s hs=>by subst hs;trivial))
    have HV1:Hid (ek.val.length=e.val.length):=HVL
    have hst2:=HST.out ek HIF.out.symm
    have hlen1:(ek.cl c).length=Lc:=by exact HLC.out
    have hq0:(ek.cl c).getD 0 0=p0:=by exact HP0.out
    have hlits:∀y∈ek.cl c,litB ek.val.length y=true:=by exact HOK.out
    have hq0l:litB ek.val.length p0=true:=by rw [←hq0];exact hlits _ (getD_mem (by omega))
    have HTR:=Lib.hid (fun W (hW:EngM κ1 W g t rest lit ek V1)=>dN hW hq0l)
    have HT0:=Lib.hid (dN HE1.out hq0l)
    have qd:=(HE1.out.clAt HU.out (j:=0) (by omega)).1
    rw [hq0] at qd hst2
    have hthree:tv ek.val p0=0∨tv ek.val p0=1∨tv ek.val p0 = -1:=by have h9:=HE1.out.v3 (vr p0);unfold tv;split<;>omega
    have HCLS:Hid (ek.cls.length=e.cls.length):=HCN
    have HMV:Hid (V1.mv lit = .slice (some ⟨gb,0,none⟩) list.length cap):=Lib.hid HS.out.mv
    have HQ0:=Lib.hid hq0
    have HLITS:=Lib.hid hlits
    have HLEN1:=Lib.hid hlen1
    generalize hyv:tv ek.val p0=y at *
    have HYV:=Lib.hid hyv
    clear hq0 hlits hq0l hlen1 hyv HIF HST HS HH HFW
    rcases hst2 with ⟨hy0,i,ho,hx1,hx2,hfn⟩|⟨hy0,ho,htl,hfn⟩|⟨hy0,ho,he2,hr⟩|⟨hy0,hfn⟩
    ·
     have hb1:decide (y≤0)=true:=by simpa using hy0
     have HMO:Hid (∀m,Calls Try.prog 85 #[.pointer (some ⟨g,0,none⟩), .int .i64 (c:Int)] (wr.drewN m) (MoveRet κ1 (wr.drewN m) g t rest lit c V1 ek)):=Lib.hid fun m =>
      bZ (HE1.out.drewN m) (by rw [HCLS.out,←HCN.out];exact HOKB.out) (by rw [HLEN1.out];omega) (by have:=HCL.out;have:=HOKB.out;have:=HCN.out;unfold LIM at *;omega) HLITS.out (fun j hj=>by rw [ho] at hj;injection hj with hj;subst hj;exact ⟨hx1,hx2⟩)
     have HO:=Lib.hid ho
     have HFN:=Lib.hid hfn
     clear hy0 ho hx1 hx2 hfn hthree
     go_wp2_with fail
     refine HT0.out.mono ?_
     rintro en w1 ⟨rfl,n1,rfl⟩
     go_wp2_with fail
     refine (HMO.out n1).mono ?_
     rintro en w2 hret
     unfold MoveRet at hret
     rw [HO.out] at hret
     obtain ⟨rfl,κ2,V2,hE2,hF2,hmv2⟩:=hret
     have HS2:Hid (FalS κ w g t rest lit (some ⟨gb,0,none⟩) cap list e.cls.length e.val.length (n+1) ks (ek.moved c i) κ2 w2 V2):=by
      refine Lib.hid ⟨hE2,hmv2.trans HMV.out,⟨mid++[.int .i64 (c:Int)],by have:=HMID.out;simp;omega,?_⟩,HFT.out.trans ((Fr.drewN _ _ _ _).trans (hF2.mono fun s hs=>rT hs)),?_,HVL.out⟩
      ·have h9:=(HHW.out.fr (Fr.drewN κ1 wr n1 (fun _=>False)) id).fr hF2 pS
       have hd:cn (list.drop n)=[Value.int .i64 (c:Int)]++cn (list.drop (n+1)):=by
        obtain ⟨h1,h2⟩:=zG.1 HC.out
        rw [zT h1,h2];rfl
       rw [hd] at h9
       rw [show cn ks++(mid++[Value.int .i64 (c:Int)])++cn (list.drop (n+1))=cn ks++mid++([Value.int .i64 (c:Int)]++cn (list.drop (n+1))) by simp]
       exact h9
      ·rw [←HCLS.out];simp [Eng.moved,Eng.watch,Eng.swap]
     clear hE2 hF2 hmv2 HMO HT0 hb1
     go_wp2_with fail
     go_roundw
     case rel=>exact ⟨n+1,ks,by omega,by go_num,rfl,_,κ2,V2,HFN.out,HS2.out⟩
     case measure=>simp [intOf];omega
    ·
     obtain rfl:y=0:=hy0
     have HFN:=Lib.hid hfn
     have HTL:=Lib.hid htl
     clear hfn htl hthree
     have HMO:Hid (∀m,Calls Try.prog 85 #[.pointer (some ⟨g,0,none⟩), .int .i64 (c:Int)] (wr.drewN m) (MoveRet κ1 (wr.drewN m) g t rest lit c V1 ek)):=Lib.hid fun m =>
      bZ (HE1.out.drewN m) (by rw [HCLS.out,←HCN.out];exact HOKB.out) (by rw [HLEN1.out];omega) (by have:=HCL.out;have:=HOKB.out;have:=HCN.out;unfold LIM at *;omega) HLITS.out (fun j hj=>by rw [ho] at hj;cases hj)
     have HO:=Lib.hid ho
     clear ho
     go_wp2_with fail
     refine HT0.out.mono ?_
     rintro en w1 ⟨rfl,n1,rfl⟩
     clear HT0
     go_wp2_with fail
     refine (HMO.out n1).mono ?_
     rintro en w2 hret
     unfold MoveRet at hret
     rw [HO.out] at hret
     obtain ⟨rfl,n2,rfl⟩:=hret
     clear HMO
     rw [kO]
     have HEX:Hid (EngM κ1 (wr.drewN (n1+n2)) g t rest lit ek V1):=Lib.hid (HE1.out.drewN _)
     have HHX:Hid (Hold κ1 (wr.drewN (n1+n2)) (.wt lit) 3 1 (.slice (some ⟨gb,0,none⟩) list.length cap) list.length (cn ks++mid++cn (list.drop n))):=Lib.hid (HHW.out.fr (Fr.drewN κ1 wr (n1+n2) (fun _=>False)) id)
     have HFX:Hid (Fr κ κ1 w (wr.drewN (n1+n2)) wK):=Lib.hid (HFT.out.trans (Fr.drewN _ _ _ _))
     have B1:Hid (ks.length+1≤list.length):=Lib.hid (by have:=HMID.out;omega)
     have HOC:Hid (∀u∈([.int .i64 (c:Int)]:List Value),u.oneCell'=true):=Lib.hid (by intro u hu;simp at hu;subst hu;rfl)
     generalize (wr.drewN (n1+n2))=Wx at *
     clear HHW HFT HE1 qd
     go_wp2_with (at_builtin;refine gF (κ:=κ1) (s0 := .wt lit) _ rfl _ _ 33 rfl 3 iI Try.underlying33 hiI hzI1 gb ks.length list.length cap _ rfl (HHX.out.fr (Fr.alloc κ1 Wx _ (fun _=>False)) id) ⟨Wx.heap.size,0,none⟩ 1 1 [.int .i64 (c:Int)] rfl rfl (wR Wx _ _) HOC.out B1.out ?_)
     intro w5 hh5 hg5
     obtain ⟨mid2,hm2,hrow⟩:=cB ks list mid HMID.out HC.out
     have hh5:Hold κ1 w5 (.wt lit) 3 1 (.slice (some ⟨gb,0,none⟩) list.length cap) list.length (cn (ks++[c])++mid2++cn (list.drop (n+1))):=by rw [←hrow];simpa using hh5
     have f5:Fr κ1 κ1 (Wx.alloc (.cells #[.int .i64 (c:Int)] 3)) w5 (fun s=>s = .wt lit):=Fr.grown κ1 hg5 (HHX.out.k gb rfl) rfl
     have HE5:Hid (EngM κ1 w5 g t rest lit ek V1):=Lib.hid ((HEX.out.alloc _).frX f5)
     have HF5:Hid (Fr κ κ1 w w5 wK):=Lib.hid ((HFX.out.trans (Fr.alloc _ _ _ _)).trans (f5.mono fun s hs=>by subst hs;trivial))
     have HH5:=Lib.hid hh5
     have HM2:=Lib.hid hm2
     clear hh5 hg5 hm2 hrow f5 HEX HHX HFX B1
     have qd:=(HE5.out.clAt HU.out (j:=0) (by rw [HLEN1.out];omega)).1
     rw [HQ0.out] at qd
     go_wp2_with fail
     refine (HTR.out _ HE5.out).mono ?_
     rintro en w6 ⟨rfl,n6,rfl⟩
     have HAS:=Lib.hid (gO (HE5.out.drewN n6) (l:=p0) (r:=(c:Int)) (by have:=HLITS.out ((ek.cl c).getD 0 0) (getD_mem (by rw [HLEN1.out];omega));rw [HQ0.out] at this;exact this) HTL.out)
     go_wp2_with fail
     refine HAS.out.mono ?_
     rintro en w7 ⟨rfl,κ2,V2,hE7,hF7,hmv7,hus7⟩
     have HS2:Hid (FalS κ w g t rest lit (some ⟨gb,0,none⟩) cap list e.cls.length e.val.length (n+1) (ks++[c]) (ek.assign p0 (c:Int)) κ2 w7 V2):=by
      refine Lib.hid ⟨hE7,by rw [hmv7];exact HMV.out,⟨mid2,HM2.out,(HH5.out.fr (Fr.drewN κ1 w5 n6 (fun _=>False)) id).fr hF7 rG⟩,(HF5.out.trans (Fr.drewN _ _ _ _)).trans (hF7.mono fun s hs=>gY hs),?_,by have h9:=HV1.out;simpa [Eng.assign] using h9⟩
      rw [←HCLS.out];rfl
     clear hE7 hF7 hmv7 hus7 HAS HE5 HF5 HH5 qd
     go_wp2_with fail
     go_roundw
     case rel=>exact ⟨n+1,ks++[c],by omega,by go_num,by simp,_,κ2,V2,HFN.out,HS2.out⟩
     case measure=>simp [intOf];omega
    ·
     obtain rfl:y = -1:=by omega
     have HR:Hid (r=(c:Int)):=Lib.hid hr
     have HE2:=Lib.hid he2
     clear hr he2 hthree hy0
     have HMO:Hid (∀m,Calls Try.prog 85 #[.pointer (some ⟨g,0,none⟩), .int .i64 (c:Int)] (wr.drewN m) (MoveRet κ1 (wr.drewN m) g t rest lit c V1 ek)):=Lib.hid fun m =>
      bZ (HE1.out.drewN m) (by rw [HCLS.out,←HCN.out];exact HOKB.out) (by rw [HLEN1.out];omega) (by have:=HCL.out;have:=HOKB.out;have:=HCN.out;unfold LIM at *;omega) HLITS.out (fun j hj=>by rw [ho] at hj;cases hj)
     have HO:=Lib.hid ho
     clear ho
     go_wp2_with fail
     refine HT0.out.mono ?_
     rintro en w1 ⟨rfl,n1,rfl⟩
     clear HT0
     go_wp2_with fail
     refine (HMO.out n1).mono ?_
     rintro en w2 hret
     unfold MoveRet at hret
     rw [HO.out] at hret
     obtain ⟨rfl,n2,rfl⟩:=hret
     clear HMO
     rw [kO]
     have HEX:Hid (EngM κ1 (wr.drewN (n1+n2)) g t rest lit ek V1):=Lib.hid (HE1.out.drewN _)
     have HHX:Hid (Hold κ1 (wr.drewN (n1+n2)) (.wt lit) 3 1 (.slice (some ⟨gb,0,none⟩) list.length cap) list.length (cn ks++mid++cn (list.drop n))):=Lib.hid (HHW.out.fr (Fr.drewN κ1 wr (n1+n2) (fun _=>False)) id)
     have HFX:Hid (Fr κ κ1 w (wr.drewN (n1+n2)) wK):=Lib.hid (HFT.out.trans (Fr.drewN _ _ _ _))
     have B1:Hid (ks.length+1≤list.length):=Lib.hid (by have:=HMID.out;omega)
     have HOC:Hid (∀u∈([.int .i64 (c:Int)]:List Value),u.oneCell'=true):=Lib.hid (by intro u hu;simp at hu;subst hu;rfl)
     generalize (wr.drewN (n1+n2))=Wx at *
     clear HHW HFT HE1 qd
     go_wp2_with (at_builtin;refine gF (κ:=κ1) (s0 := .wt lit) _ rfl _ _ 33 rfl 3 iI Try.underlying33 hiI hzI1 gb ks.length list.length cap _ rfl (HHX.out.fr (Fr.alloc κ1 Wx _ (fun _=>False)) id) ⟨Wx.heap.size,0,none⟩ 1 1 [.int .i64 (c:Int)] rfl rfl (wR Wx _ _) HOC.out B1.out ?_)
     intro w5 hh5 hg5
     obtain ⟨mid2,hm2,hrow⟩:=cB ks list mid HMID.out HC.out
     have hh5:Hold κ1 w5 (.wt lit) 3 1 (.slice (some ⟨gb,0,none⟩) list.length cap) list.length (cn (ks++[c])++mid2++cn (list.drop (n+1))):=by rw [←hrow];simpa using hh5
     have f5:Fr κ1 κ1 (Wx.alloc (.cells #[.int .i64 (c:Int)] 3)) w5 (fun s=>s = .wt lit):=Fr.grown κ1 hg5 (HHX.out.k gb rfl) rfl
     have HE5:Hid (EngM κ1 w5 g t rest lit ek V1):=Lib.hid ((HEX.out.alloc _).frX f5)
     have HF5:Hid (Fr κ κ1 w w5 wK):=Lib.hid ((HFX.out.trans (Fr.alloc _ _ _ _)).trans (f5.mono fun s hs=>by subst hs;trivial))
     have HH5:=Lib.hid hh5
     have HM2:=Lib.hid hm2
     clear hh5 hg5 hm2 hrow f5 HEX HHX HFX B1
     have qd:=(HE5.out.clAt HU.out (j:=0) (by rw [HLEN1.out];omega)).1
     rw [HQ0.out] at qd
     go_wp2_with fail
     refine (HTR.out _ HE5.out).mono ?_
     rintro en w6 ⟨rfl,n6,rfl⟩
     obtain ⟨ad,hsl,had⟩:=mZ gb 0 list.length cap (n+1) ((n:Int)+1) (by omega) (by omega) hle
     have HEY:Hid (EngM κ1 (w5.drewN n6) g t rest lit ek V1):=Lib.hid (HE5.out.drewN _)
     have HHY:Hid (Hold κ1 (w5.drewN n6) (.wt lit) 3 1 (.slice (some ⟨gb,0,none⟩) list.length cap) list.length (cn (ks++[c])++mid2++cn (list.drop (n+1)))):=Lib.hid (HH5.out.fr (Fr.drewN κ1 w5 n6 (fun _=>False)) id)
     have HFY:Hid (Fr κ κ1 w (w5.drewN n6) wK):=Lib.hid (HF5.out.trans (Fr.drewN _ _ _ _))
     generalize w5.drewN n6=Wy at *
     have HNEW:Hid (∀j u,(cn (list.drop (n+1)))[j]? = some u→Wy.cell? (ad.add j)=some u):=by
      refine Lib.hid fun j u hu => ?_
      have hjl:=(zG.1 hu).1
      rw [gP,yH] at hjl
      rw [had (by omega),qZ]
      obtain ⟨g9,c9,e9, -, -, -, -,hcc9, -⟩:=HHY.out.open_ (by omega)
      injection e9 with e9 _ _
      injection e9 with e9
      injection e9 with e9 _ _
      subst e9
      have hadd:(⟨gb,n+1,none⟩:Addr).add j=⟨gb,n+1+j,none⟩:=by
       unfold Addr.add
       split
       ·rename_i h;subst h;rfl
       ·rfl
      rw [hadd]
      refine hcc9 (n+1+j) u ?_
      have h8:(cn (ks++[c])++mid2).length=n+1:=by have:=HM2.out;simp [gP] at this ⊢;omega
      rw [zL (by omega),h8,show n+1+j-(n+1)=j by omega]
      exact hu
     have HNO:Hid (∀u∈cn (list.drop (n+1)),u.oneCell'=true):=Lib.hid (by intro u hu;unfold cn at hu;obtain ⟨z,_,rfl⟩:=List.mem_map.1 hu;rfl)
     have HNL:Hid ((cn (list.drop (n+1))).length=list.length-(n+1)):=Lib.hid (by rw [gP,yH])
     have B2:Hid (ks.length+1+(list.length-(n+1))≤list.length):=Lib.hid (by have:=HMID.out;omega)
     clear HE5 HH5 HF5 qd had
     go_wp2_with (at_builtin;refine gF (κ:=κ1) (s0 := .wt lit) _ rfl _ _ 33 rfl 3 iI Try.underlying33 hiI hzI1 gb (ks.length+1) list.length cap _ rfl HHY.out ad (list.length-(n+1)) (cap-(n+1)) (cn (list.drop (n+1))) rfl HNL.out HNEW.out HNO.out B2.out ?_)
     intro w7 hh7 hg7
     have f7:Fr κ1 κ1 Wy w7 (fun s=>s = .wt lit):=Fr.grown κ1 hg7 (HHY.out.k gb rfl) rfl
     have HE7:Hid (EngM κ1 w7 g t rest lit ek V1):=Lib.hid (HEY.out.frX f7)
     have HF7:Hid (Fr κ κ1 w w7 wK):=Lib.hid (HFY.out.trans (f7.mono fun s hs=>by subst hs;trivial))
     have HK7:Hid (Hold κ1 w7 (.wt lit) 3 1 (.slice (some ⟨gb,0,none⟩) (ks.length+1+(list.length-(n+1))) cap) (ks++[c]++list.drop (n+1)).length (cn (ks++[c]++list.drop (n+1)))):=by
      refine Lib.hid ?_
      have hlen:(ks++[c]++list.drop (n+1)).length=ks.length+1+(list.length-(n+1)):=by simp;omega
      have h6:Hold κ1 w7 (.wt lit) 3 1 (.slice (some ⟨gb,0,none⟩) list.length cap) list.length ((cn (ks++[c])++mid2++cn (list.drop (n+1))).take (ks.length+1)++cn (list.drop (n+1))++(cn (ks++[c])++mid2++cn (list.drop (n+1))).drop (ks.length+1+(list.length-(n+1)))):=by simpa using hh7
      have h9:=h6.cut B2.out rfl
      rw [hlen]
      have h5:(cn (ks++[c])++mid2++cn (list.drop (n+1))).take (ks.length+1)=cn (ks++[c]):=by
       rw [qB,show ks.length+1=(cn (ks++[c])).length by rw [gP];simp];exact xH
      have h4:cn (ks++[c]++list.drop (n+1))=cn (ks++[c])++cn (list.drop (n+1)):=by simp [cn]
      rw [h5,yA,zY (by rw [zJ,gP,gP,yH];simp),zU (by rw [zJ,gP,gP,yH];simp)] at h9
      rw [h4];exact h9
     obtain ⟨w8,hr8,hm8,hg8⟩:=HE7.out.wat.store (k:=lit) (v := .slice (some ⟨gb,0,none⟩) (ks.length+1+(list.length-(n+1))) cap) (by have:=HLB.out;rw [HVL.out];exact this) (by have:=HE7.out.B;omega)
     have HFIN:=Lib.hid (HE7.out.stored HK7.out hm8 hg8)
     have q2:=HE7.out.cellE (i:=2) rfl
     clear hh7 hg7 f7 hm8 hg8 HEY HHY HFY
     go_wp2_with fail
     go_ret
     exact ⟨by rw [HR.out];rfl,κ1,{ V1 with mv:=updV V1.mv lit (.slice (some ⟨gb,0,none⟩) (ks.length+1+(list.length-(n+1))) cap) },by rw [HE2.out];exact HFIN.out.1,HF7.out.trans (HFIN.out.2.mono fun s hs=>by subst hs;trivial)⟩
    ·
     obtain rfl:y=1:=by omega
     have HFN:=Lib.hid hfn
     clear hfn hthree hy0
     go_wp2_with fail
     refine HT0.out.mono ?_
     rintro en w1 ⟨rfl,n1,rfl⟩
     clear HT0
     have HEX:Hid (EngM κ1 (wr.drewN n1) g t rest lit ek V1):=Lib.hid (HE1.out.drewN _)
     have HHX:Hid (Hold κ1 (wr.drewN n1) (.wt lit) 3 1 (.slice (some ⟨gb,0,none⟩) list.length cap) list.length (cn ks++mid++cn (list.drop n))):=Lib.hid (HHW.out.fr (Fr.drewN κ1 wr n1 (fun _=>False)) id)
     have HFX:Hid (Fr κ κ1 w (wr.drewN n1) wK):=Lib.hid (HFT.out.trans (Fr.drewN _ _ _ _))
     have B1:Hid (ks.length+1≤list.length):=Lib.hid (by have:=HMID.out;omega)
     have HOC:Hid (∀u∈([.int .i64 (c:Int)]:List Value),u.oneCell'=true):=Lib.hid (by intro u hu;simp at hu;subst hu;rfl)
     generalize (wr.drewN n1)=Wx at *
     clear HHW HFT HE1 qd
     go_wp2_with (at_builtin;refine gF (κ:=κ1) (s0 := .wt lit) _ rfl _ _ 33 rfl 3 iI Try.underlying33 hiI hzI1 gb ks.length list.length cap _ rfl (HHX.out.fr (Fr.alloc κ1 Wx _ (fun _=>False)) id) ⟨Wx.heap.size,0,none⟩ 1 1 [.int .i64 (c:Int)] rfl rfl (wR Wx _ _) HOC.out B1.out ?_)
     intro w5 hh5 hg5
     obtain ⟨mid2,hm2,hrow⟩:=cB ks list mid HMID.out HC.out
     have hh5:Hold κ1 w5 (.wt lit) 3 1 (.slice (some ⟨gb,0,none⟩) list.length cap) list.length (cn (ks++[c])++mid2++cn (list.drop (n+1))):=by rw [←hrow];simpa using hh5
     have f5:Fr κ1 κ1 (Wx.alloc (.cells #[.int .i64 (c:Int)] 3)) w5 (fun s=>s = .wt lit):=Fr.grown κ1 hg5 (HHX.out.k gb rfl) rfl
     have HE5:Hid (EngM κ1 w5 g t rest lit ek V1):=Lib.hid ((HEX.out.alloc _).frX f5)
     have HF5:Hid (Fr κ κ1 w w5 wK):=Lib.hid ((HFX.out.trans (Fr.alloc _ _ _ _)).trans (f5.mono fun s hs=>by subst hs;trivial))
     have HH5:=Lib.hid hh5
     have HM2:=Lib.hid hm2
     clear hh5 hg5 hm2 hrow f5 HEX HHX HFX B1
     have qd:=(HE5.out.clAt HU.out (j:=0) (by rw [HLEN1.out];omega)).1
     rw [HQ0.out] at qd
     go_wp2_with fail
     refine (HTR.out _ HE5.out).mono ?_
     rintro en w6 ⟨rfl,n6,rfl⟩
     have HS2:Hid (FalS κ w g t rest lit (some ⟨gb,0,none⟩) cap list e.cls.length e.val.length (n+1) (ks++[c]) ek κ1 (w5.drewN n6) V1) :=
      Lib.hid ⟨HE5.out.drewN n6,HMV.out,⟨mid2,HM2.out,HH5.out.fr (Fr.drewN κ1 w5 n6 (fun _=>False)) id⟩,HF5.out.trans (Fr.drewN _ _ _ _),HCLS.out,HVL.out⟩
     clear HE5 HF5 HH5 qd
     go_wp2_with fail
     go_roundw
     case rel=>exact ⟨n+1,ks++[c],by omega,by go_num,by simp,_,κ1,V1,HFN.out,HS2.out⟩
     case measure=>simp [intOf];omega
  ·have hnl:n=list.length:=by omega
   have hres:e2={ ek with wat:=upd ek.wat lit ks }∧r = -1:=by
    have h9:=HFAL.out
    rw [hnl,kV,gR] at h9
    injection h9 with h9
    injection h9 with h1 h2
    exact ⟨h1.symm,h2.symm⟩
   have HRES:=Lib.hid hres
   have hK:=hH.cut (m:=ks.length) (by omega) rfl
   rw [row_keep] at hK
   have HK:=Lib.hid hK
   obtain ⟨w8,hr8,hm8,hg8⟩:=HS.out.e.wat.store (k:=lit) (v := .slice A ks.length cap) (by have:=HLB.out;rw [HVL.out];exact this) (by have:=HS.out.e.B;omega)
   have HFIN:=Lib.hid (HS.out.e.stored HK.out hm8 hg8)
   have HFF:=Lib.hid HS.out.f
   have q2:=HS.out.e.cellE (i:=2) rfl
   clear hH hK hres hm8 hg8 hmid HS HFAL HMID
   go_wp2_with fail
   go_ret
   exact ⟨by rw [HRES.out.2];rfl,κ1,{ V1 with mv:=updV V1.mv lit (.slice A ks.length cap) },by rw [HRES.out.1];exact HFIN.out.1,HFF.out.trans (HFIN.out.2.mono fun s hs=>by subst hs;trivial)⟩
end
end Go.Proofs.Yticieifacalocaa
