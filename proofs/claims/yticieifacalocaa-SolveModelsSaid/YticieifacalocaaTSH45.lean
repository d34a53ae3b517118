/- SolIst -/
import Derived.Test.YticieifacalocaaTSH44
namespace Go.Proofs.Yticieifacalocaa
open Go.RowKit
theorem EngM.frCl {κ κ':Kap} {w w':World} {g:Nat} {t:TypeId} {rest:List Value} {x:Int} {e:Eng} {V:EV} {N:Nat} (h:EngM κ w g t rest x e V) (hN:e.cls.length≤N) (f:Fr κ κ' w w' (fun c=>c = .cl N)):EngM κ' w' g t rest x e V :=
 ⟨h.blk.fr f (by simp),h.cls.fr f (by simp),fun c u hu=>(h.cl c u hu).fr f (by
   intro e1
   injection e1 with e1
   obtain ⟨hl, -⟩:=zG.1 hu
   have:=h.cls.o.1
   omega),h.inp.fr f (by simp),h.val.fr f (by simp),h.rsn.fr f (by simp),h.lvl.fr f (by simp),h.rl,h.ll,
  h.tr.fr f (by simp),h.st.fr f (by simp),h.wat.fr f (by simp),fun l hl h0=>(h.wt l hl h0).fr f (by simp),h.B,h.v3⟩
theorem SolM.frCl {κ κ':Kap} {w w':World} {g:Nat} {s:Sol} {V:EV} {U:SV} {N:Nat} (h:SolM κ w g s V U) (hN:s.e.cls.length≤N) (f:Fr κ κ' w w' (fun c=>c = .cl N)):SolM κ' w' g s V U :=
 ⟨h.eng.frCl hN f,h.num.fr f (by simp),h.arcs.fr f (by simp),h.al,h.aln,fun y u hu=>(h.ar y u hu).fr f (by simp),h.act.fr f (by simp),h.actl,h.org.fr f (by simp),h.oll,
  fun c o p ho hp=>⟨(h.och c o p ho hp).1.fr f (by simp),(h.och c o p ho hp).2.fr f (by simp)⟩,h.unt.fr f (by simp),h.untl,h.acty.fr f (by simp),h.actyl,h.arl⟩
structure IsS (κ:Kap) (w:World) (g:Nat) (U:SV) (s:Sol) (conf:Nat) (gx cx L:Nat) (hv:Value) (ch:List (Nat × Int)) (κ1:Kap) (wr:World) (V:EV) (cl:List Int):Prop where
 m:SolM κ1 wr g s V U
 f:Fr κ κ1 w wr wO
 x:Hold κ1 wr (.cl s.e.cls.length) 3 1 (.slice (some ⟨gx,0,none⟩) L cx) L (ci cl)
 hc:Hold κ1 wr (.och s.org.length) 115 2 hv ch.length (aC ch)
 o:HB κ1 wr (.tmp 0) w.heap.size 94 (orgA conf hv)
section
variable {κ κ1:Kap} {w wr:World} {g:Nat} {U:SV} {s:Sol} {conf gx cx L:Nat} {hv:Value} {ch:List (Nat × Int)} {V:EV} {cl:List Int}
theorem IsS.drewN (h:IsS κ w g U s conf gx cx L hv ch κ1 wr V cl) (n:Nat):IsS κ w g U s conf gx cx L hv ch κ1 (wr.drewN n) V cl :=
 have f:=Fr.drewN κ1 wr n (fun _=>False)
 ⟨h.m.drewN n,h.f.trans (Fr.drewN _ _ _ _),h.x.fr f id,h.hc.fr f id,h.o.fr f id⟩
theorem IsS.set (h:IsS κ w g U s conf gx cx L hv ch κ1 wr V cl) (i:Nat) (y:Int):IsS κ w g U s conf gx cx L hv ch κ1 (wr.setCell ⟨gx,i,none⟩ (.int .i64 y)) V (cl.set i y):=by
 have hk:=h.x.k gx rfl
 have f:=frs κ1 wr (i:=i) (u := .int .i64 y) hk
 refine ⟨h.m.frCl (Nat.le_refl _) f,h.f.trans (f.mono fun c hc=>by subst hc;trivial),?_,h.hc.fr f (by simp),h.o.fr f (by simp)⟩
 have:=h.x.set_ i (.int .i64 y)
 rw [bN]
 exact this
theorem cZ {f:Form} {s s4:Sol} {clause:List Int} {o:Org} (h:installF f s clause o=some s4):clause.all (litB s.e.val.length)=true∧0<clause.length∧clause.length<LIM∧∃cl lv,topF s.e.lvl (List.range' 1 (clause.length-1)) clause 0=(cl,lv)∧0≤lv∧s.e.cls.length<LIM∧s.org.length<LIM ∧
  ∃s2 s3,((1<clause.length∧(s.e.wat (cl.getD 0 0)).length<LIM∧(s.e.wat (cl.getD 1 0)).length<LIM∧cl.getD 0 0≠cl.getD 1 0∧s2={ s with e:=({ s.e with cls:=s.e.cls++[cl] }:Eng).attach s.e.cls.length,org:=s.org++[o] })∨(¬1<clause.length∧s2={ s with e:={ s.e with cls:=s.e.cls++[cl] },org:=s.org++[o] })) ∧
   backF f s2 lv.toNat=some s3∧s3.e.tr.length<LIM∧s4={ s3 with e:=s3.e.assign (cl.getD 0 0) (s.e.cls.length:Int) }:=by
 unfold installF at h
 split at h
 ·rename_i hc
  refine ⟨hc.1,hc.2.1,hc.2.2,?_⟩
  rcases hp:topF s.e.lvl (List.range' 1 (clause.length-1)) clause 0 with ⟨cl,lv⟩
  rw [hp] at h
  simp only at h
  refine ⟨cl,lv,rfl,?_⟩
  split at h
  ·rename_i h0
   refine ⟨h0,?_⟩
   split at h
   ·cases h
   ·rename_i s1 ha
    unfold Sol.addF at ha
    split at ha
    ·rename_i hl
     injection ha with ha
     subst ha
     refine ⟨hl.1,hl.2,?_⟩
     split at h
     ·cases h
     ·rename_i hw
      split at h
      ·cases h
      ·rename_i s3 hb
       split at h
       ·rename_i ht
        injection h with h
        by_cases h1:1<clause.length
        ·rw [if_pos h1] at hb
         have hw2:_∧_∧_:=Classical.not_not.1 (fun hn=>hw ⟨h1,hn⟩)
         exact ⟨_,s3, .inl ⟨h1,hw2.1,hw2.2.1,hw2.2.2,rfl⟩,hb,ht,h.symm⟩
        ·rw [if_neg h1] at hb
         exact ⟨_,s3, .inr ⟨h1,rfl⟩,hb,ht,h.symm⟩
       ·cases h
    ·cases ha
  ·cases h
 ·cases h
theorem wat_sol {x:Int} {c:Col} (h:pC x c):wO c:=dL (eS h)
theorem asg_sol {c:Col} (h:cQ c):wO c:=dL (gY h)
theorem addC_sol {c:Col} (h:lM c):wO c:=by cases c<;>first|trivial|exact h
theorem aL {c:Col} (h:bP c):wO c:=by cases c<;>first|trivial|exact h
theorem cl_last (e:Eng) (cl:List Int):({ e with cls:=e.cls++[cl] }:Eng).cl e.cls.length=cl:=by
 unfold Eng.cl
 rw [List.getD_eq_getElem?_getD]
 simp
theorem undo_val (f:Form):∀(l:List Int) (s s1:Sol),l.foldlM (fun s lit=>if undoOk f s lit=true then some (undoF f s lit) else none) s=some s1→s1.e.val.length=s.e.val.length:=by
 intro l
 induction l with
 | nil=>intro s s1 h;injection h with h;rw [h]
 | cons x r ih =>
  intro s s1 h
  rw [qW] at h
  by_cases hc:undoOk f s x=true
  ·rw [if_pos hc] at h
   rw [ih _ _ h]
   simp [undoF]
  ·rw [if_neg hc] at h;cases h
theorem mQ {f:Form} {s s3:Sol} {level:Nat} (h:backF f s level=some s3):s3.e.val.length=s.e.val.length:=by
 unfold backF at h
 split at h
 ·injection h with h;rw [h]
 ·simp only at h
  split at h
  ·cases hf:((s.e.tr.drop (s.e.st.getD level 0)).reverse.foldlM (fun s lit=>if undoOk f s lit=true then some (undoF f s lit) else none) s) with
   | none=>rw [hf] at h;cases h
   | some s1 =>
    rw [hf] at h
    injection h with h
    have h2:=undo_val f _ _ _ hf
    rw [←h]
    exact h2
  ·cases h
set_option maxRecDepth 100000 in
set_option maxHeartbeats 16000000 in
theorem oL {f:Form} {vx:Value} {clause:List Int} {s2:Sol} (h:SolM κ w g s V U) (hd:DU κ w U.av f.atoms) (hC:∀d∈f.atoms, -9223372036854775807≤d.c) (hx:Hold κ w (.cl s.e.cls.length) 3 1 vx clause.length (ci clause)) (hc:Hold κ w (.och s.org.length) 115 2 hv ch.length (aC ch))
  (hq:installF f s clause ⟨wF,conf,ch⟩=some s2) :
  Calls Try.prog 83 #[.pointer (some ⟨g,0,none⟩),vx, .agg (orgA conf hv)] w (wP κ w g U wO (.tuple #[]) s2):=by
 obtain ⟨hall,hpos,hlim,cl0,lv0,htop,hlv0,hcl,hol,t2,t3,hatt,hback,htr,hs4⟩:=cZ hq
 obtain ⟨gx,cx,rfl, -, -,hcx,hcm, -, -⟩:=hx.open_ hpos
 have f1:=Fr.make κ w (.cells (orgA conf hv) 94) (.tmp 0) (fun _=>False)
 have HI0:Hid (IsS κ w g U s conf gx cx clause.length hv ch (kset κ w.heap.size (.tmp 0)) (w.alloc (.cells (orgA conf hv) 94)) V clause) :=
  Lib.hid ⟨h.fr f1 fun _ _=>id,f1.mono fun _=>False.elim,hx.fr f1 id,hc.fr f1 id,HB.new κ w (.tmp 0) _ _⟩
 have HALL:Hid (∀x∈clause,litB s.e.val.length x=true):=Lib.hid (by simpa using hall)
 have HD:=Lib.hid (hd.fr (f1.mono fun _=>False.elim:Fr κ (kset κ w.heap.size (.tmp 0)) w _ wO))
 have HDD:=Lib.hid hd
 have HC:=Lib.hid hC
 have HTOP:=Lib.hid htop
 have HADD:=Lib.hid (And.intro hlv0 (And.intro hcl hol))
 have HREST:=Lib.hid (And.intro hatt (And.intro hback (And.intro htr hs4)))
 have hB:=h.eng.B
 generalize hL:clause.length=L at *
 have HLL:=Lib.hid hL
 unfold maxLen at hcm
 unfold LIM at hlim
 clear h hd hC hx hc hq hall htop hlv0 hcl hol hatt hback htr hs4 f1 hL
 obtain ⟨sh1,sh2,sh3⟩:True∧True∧True:=⟨trivial,trivial,trivial⟩
 clear sh1 sh2 sh3
 unfold orgA
 go_enter Try.func83,Try.ntmps83
 go_upto_region 3 with fail
 unfold orgA at HI0 HD
 generalize w.alloc (.cells #[.int .i64 0, .int .i64 0, .slice none 0 0, .int .i64 0, .int .i64 0, .int .i64 0, .int .i64 (conf:Int),hv] 94)=W1 at *
 generalize kset κ w.heap.size (.tmp 0)=κ0 at *
 have HI1:Hid (IsS κ w g U s conf gx cx L hv ch κ0 W1 V clause∧clause.length=L∧(∀x∈clause,litB s.e.val.length x=true)∧topF s.e.lvl (List.range' 1 (L-1)) clause 0=(cl0,lv0)):=Lib.hid ⟨HI0.out,HLL.out,HALL.out,HTOP.out⟩
 clear HI0 HALL HTOP HD
 go_loopw [6,7] (fun l i wr=>∃(k:Nat) (lv:Int) (cl:List Int),1≤k∧k≤L∧l = .int .i64 lv∧i = .int .i64 k∧∃κ1,Hid (IsS κ w g U s conf gx cx L hv ch κ1 wr V cl∧cl.length=L∧(∀x∈cl,litB s.e.val.length x=true)∧topF s.e.lvl (List.range' k (L-k)) cl lv=(cl0,lv0))) (fun _ i _=>L-(intOf i).toNat)
 case atStart=>exact ⟨1,0,clause,Nat.le_refl _,hpos,rfl,rfl,κ0,HI1⟩
 case round =>
  clear HI1
  obtain ⟨k,lv,cl,hk1,hk,rfl,rfl,κ1,HS⟩:=hrel
  by_cases hlt:k<L
  ·obtain ⟨hI,hcll,hla,htop⟩:=HS.out
   obtain ⟨x,hx⟩:∃x,cl[k]? = some x:=⟨_,List.getElem?_eq_getElem (by omega)⟩
   have hxg:cl.getD k 0=x:=by rw [List.getD_eq_getElem?_getD,hx];rfl
   have hrg:List.range' k (L-k)=k::List.range' (k+1) (L-(k+1)):=by rw [show L-k=(L-(k+1))+1 by omega,List.range'_succ]
   rw [hrg] at htop
   unfold topF at htop
   simp only at htop
   rw [hxg] at htop
   have hlb:=hla x (List.mem_of_getElem? hx)
   obtain ⟨l0,l1⟩:=wN hlb
   have hi:=wZ (by omega) hlb
   have HV:Hid (∀W,Calls Try.prog 64 #[.int .i64 x] W fun e w'=>e = .returned (.int .i64 (vr x:Nat))∧W=w'):=Lib.hid fun W=>gI x l0 hi.1 hi.2 W
   obtain ⟨ga,ca,e1, -, -, -, -,hcc, -⟩:=hI.x.open_ hpos
   cases e1
   have q5:wr.cell? ⟨g,5,none⟩=some (.slice (some ⟨V.gl,0,none⟩) s.e.val.length s.e.val.length):=hI.m.eng.cellE (i:=5) rfl
   have qx:=hcc k _ (wU hx)
   have ql:=hI.m.eng.lvlAt l1
   generalize vr x=v at *
   have yv:(v:Int)<(s.e.val.length:Int):=by omega
   have yk:(k:Int)<(L:Int):=by omega
   have y1:(1:Int)<(L:Int):=by omega
   have HKL:=Lib.hid (And.intro hk1 (And.intro hk hlt))
   have HII:Hid (IsS κ w g U s conf gx cx L hv ch κ1 wr.drew V cl):=Lib.hid (hI.drewN 1)
   have HLA:=Lib.hid (And.intro hcll hla)
   have HXG:=Lib.hid hxg
   generalize s.e.lvl.getD v 0=l at *
   have HTO:=Lib.hid htop
   clear hI hcll hla htop hx hxg hrg hlb l0 l1 hi hcc HS hk1 hk hlt
   go_upto_region 5 with fail
   go_region_held_law (fun w'=>w'.cell? ⟨g,5,none⟩=some (.slice (some ⟨V.gl,0,none⟩) s.e.val.length s.e.val.length)∧w'.cell? ⟨gx,k,none⟩=some (.int .i64 x)∧w'.cell? ⟨V.gl,v,none⟩=some (.int .i64 l)) (exact ⟨q5,qx,ql⟩) ((refine wC rfl 64 _ _ rfl _ Try.func64 (by kernel_rfl) (by kernel_rfl) #[.int .i64 x] (by first|rfl|(simp [Act.eval];done)) (HV.out _) (fun e w' h=>⟨_,h.1⟩) ?_;rintro v9 w9 ⟨hv9,rfl⟩;injection hv9 with hv9;subst hv9))
   clear q5 qx ql
   generalize wr.drew=W2 at *
   by_cases hcmp:lv<l
   ·have yc:decide (l > lv)=true:=by simpa using hcmp
    have HN:Hid (IsS κ w g U s conf gx cx L hv ch κ1 ((W2.setCell ⟨gx,1,none⟩ (.int .i64 x)).setCell ⟨gx,k,none⟩ (.int .i64 (cl.getD 1 0))).drew V (swp cl 1 k)∧(swp cl 1 k).length=L∧(∀x∈swp cl 1 k,litB s.e.val.length x=true)∧topF s.e.lvl (List.range' (k+1) (L-(k+1))) (swp cl 1 k) l=(cl0,lv0)):=by
     have hkk:=HKL.out
     refine Lib.hid ⟨?_,by rw [cH];exact HLA.out.1,fun y hy=>HLA.out.2 y ((eR (by rw [HLA.out.1];omega) (by rw [HLA.out.1];omega)).mem_iff.1 hy),?_⟩
     ·have:=((HII.out.set 1 x).set k (cl.getD 1 0)).drewN 1
      rw [←HXG.out] at this ⊢
      exact this
     ·have:=HTO.out
      rw [if_pos hcmp] at this
      exact this
    obtain ⟨ga,ca,e1, -, -, -, -,hcc,hz⟩:=HII.out.x.open_ hpos
    cases e1
    have q1:=hcc 1 _ (wU (getD_at (xs:=cl) (by rw [HLA.out.1];have:=HKL.out;omega)))
    have qk:=hcc k _ (wU (getD_at (xs:=cl) (by rw [HLA.out.1];have:=HKL.out;omega)))
    rw [HXG.out] at qk
    have z1:=hz 1
    have zk:=hz k
    obtain ⟨ga,ca,e1, -, -, -, -,hcc2,hz2⟩:=(HII.out.set 1 x).x.open_ hpos
    cases e1
    have qk2:=hcc2 k _ (wU (getD_at (xs:=cl.set 1 x) (by rw [zX,HLA.out.1];have:=HKL.out;omega)))
    have zk2:=hz2 k
    generalize (cl.set 1 x).getD k 0=x2 at *
    generalize cl.getD 1 0=x1 at *
    clear HTO hcc hz HII hcc2 hz2
    go_upto_region 8 with fail
    go_region
    all_goals
     clear q1 qk z1 zk qk2 zk2
     generalize ((W2.setCell ⟨gx,1,none⟩ (.int .i64 x)).setCell ⟨gx,k,none⟩ (.int .i64 x1)).drew=W3 at *
     obtain ⟨hk1,hk,hlt⟩:=HKL.out
     go_wp2_with fail
     go_roundw
     case rel=>exact ⟨k+1,l,swp cl 1 k,by omega,by omega,rfl,by go_num,κ1,HN⟩
     case measure=>simp [intOf];omega
   ·have yc:decide (l > lv)=false:=by simpa using hcmp
    have HN:Hid (IsS κ w g U s conf gx cx L hv ch κ1 W2 V cl∧cl.length=L∧(∀x∈cl,litB s.e.val.length x=true)∧topF s.e.lvl (List.range' (k+1) (L-(k+1))) cl lv=(cl0,lv0)):=by
     refine Lib.hid ⟨HII.out,HLA.out.1,HLA.out.2,?_⟩
     have:=HTO.out
     rw [if_neg hcmp] at this
     exact this
    obtain ⟨hk1,hk,hlt⟩:=HKL.out
    clear HTO HII
    go_wp2_with fail
    go_roundw
    case rel=>exact ⟨k+1,lv,cl,by omega,by omega,rfl,by go_num,κ1,HN⟩
    case measure=>simp [intOf];omega
  ·obtain rfl:L=k:=by omega
   have yk:¬((L:Int)<(L:Int)):=by omega
   obtain ⟨hI,hcll,hla,htop⟩:=HS.out
   rw [xX] at htop
   obtain rfl:cl0=cl:=(congrArg Prod.fst htop).symm
   obtain rfl:lv0=lv:=(congrArg Prod.snd htop).symm
   obtain ⟨hlv0,hcl,hol⟩:=HADD.out
   have hadd2:=iG (xs:=cl0) (o:=⟨wF,conf,ch⟩) (p:=(.slice none 0 0,hv)) hI.m (by rw [hcll];exact hI.x) (Hold.nil _ _ _ _ _) hI.hc hcl hol
   have HAC:Hid (Calls Try.prog 66 #[.pointer (some ⟨g,0,none⟩), .slice (some ⟨gx,0,none⟩) L cx, .agg #[.int .i64 0, .int .i64 0, .slice none 0 0, .int .i64 0, .int .i64 0, .int .i64 0, .int .i64 (conf:Int),hv]] wr (wP κ1 wr g U lM (.int .i64 (s.e.cls.length:Int)) { s with e:={ s.e with cls:=s.e.cls++[cl0] },org:=s.org++[⟨wF,conf,ch⟩] })):=Lib.hid hadd2
   have o0:=hI.o.cell 0
   have o1:=hI.o.cell 1
   have o2:=hI.o.cell 2
   have o3:=hI.o.cell 3
   have o4:=hI.o.cell 4
   have o5:=hI.o.cell 5
   have o6:=hI.o.cell 6
   have o7:=hI.o.cell 7
   unfold orgA at o0 o1 o2 o3 o4 o5 o6 o7
   simp only [zA,zB,zC] at o0 o1 o2 o3 o4 o5 o6 o7
   have HI9:=Lib.hid hI
   have HLA:=Lib.hid (And.intro hcll hla)
   have HN:=Lib.hid (And.intro hcl hol)
   have HL0:=Lib.hid hlv0
   clear hI hcll hla htop HS hadd2 hcl hol hlv0 HADD hk1 hk hlt
   go_wp2_with fail
   refine HAC.out.mono ?_
   rintro en wu ⟨rfl,κ5,V5,U5,hm5,hf5,hsm5⟩
   have HX5:=Lib.hid (HI9.out.x.fr hf5 id)
   have HF5:Hid (Fr κ κ5 w wu wO):=Lib.hid (HI9.out.f.trans (hf5.mono fun c hc=>addC_sol hc))
   have HS5:=Lib.hid hm5
   have HSM5:=Lib.hid hsm5
   clear hm5 hf5 hsm5 HAC HI9 o0 o1 o2 o3 o4 o5 o6 o7
   obtain ⟨hatt, -⟩:=HREST.out
   rcases hatt with ⟨h1,hw0,hw1,hne,ht2⟩|⟨h1,ht2⟩
   ·have HAT:Hid (Calls Try.prog 58 #[.pointer (some ⟨g,0,none⟩), .int .i64 (s.e.cls.length:Int)] wu (fP κ5 wu g 89 (U5.rest s.num.length s.e.val.length s.rst) 0 (pC 0) (.tuple #[]) (({ s.e with cls:=s.e.cls++[cl0] }:Eng).attach s.e.cls.length))):=by
     have hll:=HLA.out.1
     have hb0:=HLA.out.2 _ (getD_mem (l:=cl0) (i:=0) (by omega))
     have hb1:=HLA.out.2 _ (getD_mem (l:=cl0) (i:=1) (by omega))
     have hn1:=HN.out.1
     unfold LIM at hn1
     have hcc:=cl_last s.e cl0
     refine Lib.hid (iU HS5.out.eng (c:=s.e.cls.length) (by simp) ?_ (by omega) ?_ ?_ ?_ ?_ ?_ ?_ ?_)
     all_goals rw [hcc]
     ·omega
     ·exact hb0
     ·exact hb1
     ·exact (wN hb0).1
     ·exact (wN hb1).1
     ·exact hw0
     ·exact hw1
     ·exact hne
    have HT2:=Lib.hid ht2
    have y1:(1:Int)<(L:Int):=by omega
    clear h1 hw0 hw1 hne ht2 yk
    go_wp2_with fail
    refine HAT.out.mono ?_
    rintro en wa ⟨rfl,κ6,V6,hE6,hF6⟩
    have hm6:SolM κ6 wa g t2 V6 U5:=by rw [HT2.out];exact HS5.out.withE hF6 (fun c hc=>eS hc) hE6 rfl
    have HX6:=Lib.hid (HX5.out.fr hF6 id)
    have HF6:Hid (Fr κ κ6 w wa wO):=Lib.hid (HF5.out.trans (hF6.mono fun c hc=>wat_sol hc))
    have HVL:Hid (t2.e.val.length=s.e.val.length):=Lib.hid (by rw [HT2.out];rfl)
    have HBK:Hid (Calls Try.prog 61 #[.pointer (some ⟨g,0,none⟩), .int .i64 lv0] wa (wP κ6 wa g U5 bP (.tuple #[]) t3)):=by
     have hd6:DU κ6 wa U5.av f.atoms:=by rw [HSM5.out.2.2.2.1];exact HDD.out.fr HF6.out
     have:=eI (level:=lv0.toNat) hm6 hd6 HC.out HREST.out.2.1
     rw [kA HL0.out] at this
     exact Lib.hid this
    clear hE6 hF6 hm6 HAT HS5 HX5 HF5 HT2
    go_wp2_with fail
    refine HBK.out.mono ?_
    rintro en wb ⟨rfl,κ7,V7,U7,hm7,hf7,hsm7⟩
    have hx7:=HX6.out.fr hf7 id
    obtain ⟨ga,ca,e1, -, -, -, -,hcc, -⟩:=hx7.open_ hpos
    cases e1
    have qx:=hcc 0 _ (wU (getD_at (xs:=cl0) (by rw [HLA.out.1];exact hpos)))
    have HF7:Hid (Fr κ κ7 w wb.drew wO):=Lib.hid ((HF6.out.trans (hf7.mono fun c hc=>aL hc)).trans (Fr.drew _ _ _))
    have hlb:litB t3.e.val.length (cl0.getD 0 0)=true:=by rw [mQ HREST.out.2.1,HVL.out];exact HLA.out.2 _ (getD_mem (by rw [HLA.out.1];exact hpos))
    have HS7:=Lib.hid (hm7.drewN 1)
    have HAS:Hid (Calls Try.prog 47 #[.pointer (some ⟨g,0,none⟩), .int .i64 (cl0.getD 0 0), .int .i64 (s.e.cls.length:Int)] wb.drew (eH κ7 wb.drew g 89 (U7.rest t3.num.length t3.e.val.length t3.rst) 0 cQ (.tuple #[]) V7 (t3.e.assign (cl0.getD 0 0) (s.e.cls.length:Int)))):=Lib.hid (gO HS7.out.eng hlb HREST.out.2.2.1)
    have HEND:Hid (∀vu wu,eH κ7 wb.drew g 89 (U7.rest t3.num.length t3.e.val.length t3.rst) 0 cQ (.tuple #[]) V7 (t3.e.assign (cl0.getD 0 0) (s.e.cls.length:Int)) (.returned vu) wu→vu = .tuple #[]∧wP κ w g U wO (.tuple #[]) s2 (.returned (.tuple #[])) wu):=by
     have hsm:=HSM5.out.trans hsm7
     refine Lib.hid fun vu wu hu => ?_
     obtain ⟨e1,κ8,V8,hE8,hF8, -⟩:=hu
     injection e1 with e1
     refine ⟨e1,rfl,κ8,V8,U7,?_,HF7.out.trans (hF8.mono fun c hc=>asg_sol hc),hsm⟩
     rw [HREST.out.2.2.2]
     exact HS7.out.withE hF8 (fun c hc=>gY hc) hE8 (by simp [Eng.assign])
    generalize cl0.getD 0 0=l0 at *
    clear hm7 hf7 hsm7 hx7 hcc hlb HBK HX6 HF6 HVL HS7 HF7
    go_upto_region 13 with fail
    go_region_law (refine wC rfl 47 _ _ rfl _ Try.func47 (by kernel_rfl) (by kernel_rfl) #[.pointer (some ⟨g,0,none⟩), .int .i64 l0, .int .i64 (s.e.cls.length:Int)] (by first|rfl|(simp [Act.eval];done)|(simp [Act.eval,Act.put];done)) HAS.out (fun e w' h=>⟨_,h.1⟩) ?_;intro vu wu hu;obtain ⟨hv9,hK⟩:=HEND.out vu wu hu;subst hv9;have HK:=Lib.hid hK;clear hK hu)
    all_goals
     clear qx HEND HAS
     go_wp2_with fail
     go_end0
     exact HK.out
   ·have HT2:=Lib.hid ht2
    have y1:¬(1:Int)<(L:Int):=by omega
    have hm6:SolM κ5 wu g t2 V5 U5:=by rw [HT2.out];exact HS5.out
    have HX6:=HX5
    have HF6:=HF5
    have HVL:Hid (t2.e.val.length=s.e.val.length):=Lib.hid (by rw [HT2.out])
    have HBK:Hid (Calls Try.prog 61 #[.pointer (some ⟨g,0,none⟩), .int .i64 lv0] wu (wP κ5 wu g U5 bP (.tuple #[]) t3)):=by
     have hd6:DU κ5 wu U5.av f.atoms:=by rw [HSM5.out.2.2.2.1];exact HDD.out.fr HF6.out
     have:=eI (level:=lv0.toNat) hm6 hd6 HC.out HREST.out.2.1
     rw [kA HL0.out] at this
     exact Lib.hid this
    clear h1 ht2 yk hm6 HS5 HX5 HF5 HT2
    go_wp2_with fail
    refine HBK.out.mono ?_
    rintro en wb ⟨rfl,κ7,V7,U7,hm7,hf7,hsm7⟩
    have hx7:=HX6.out.fr hf7 id
    obtain ⟨ga,ca,e1, -, -, -, -,hcc, -⟩:=hx7.open_ hpos
    cases e1
    have qx:=hcc 0 _ (wU (getD_at (xs:=cl0) (by rw [HLA.out.1];exact hpos)))
    have HF7:Hid (Fr κ κ7 w wb.drew wO):=Lib.hid ((HF6.out.trans (hf7.mono fun c hc=>aL hc)).trans (Fr.drew _ _ _))
    have hlb:litB t3.e.val.length (cl0.getD 0 0)=true:=by rw [mQ HREST.out.2.1,HVL.out];exact HLA.out.2 _ (getD_mem (by rw [HLA.out.1];exact hpos))
    have HS7:=Lib.hid (hm7.drewN 1)
    have HAS:Hid (Calls Try.prog 47 #[.pointer (some ⟨g,0,none⟩), .int .i64 (cl0.getD 0 0), .int .i64 (s.e.cls.length:Int)] wb.drew (eH κ7 wb.drew g 89 (U7.rest t3.num.length t3.e.val.length t3.rst) 0 cQ (.tuple #[]) V7 (t3.e.assign (cl0.getD 0 0) (s.e.cls.length:Int)))):=Lib.hid (gO HS7.out.eng hlb HREST.out.2.2.1)
    have HEND:Hid (∀vu wu,eH κ7 wb.drew g 89 (U7.rest t3.num.length t3.e.val.length t3.rst) 0 cQ (.tuple #[]) V7 (t3.e.assign (cl0.getD 0 0) (s.e.cls.length:Int)) (.returned vu) wu→vu = .tuple #[]∧wP κ w g U wO (.tuple #[]) s2 (.returned (.tuple #[])) wu):=by
     have hsm:=HSM5.out.trans hsm7
     refine Lib.hid fun vu wu hu => ?_
     obtain ⟨e1,κ8,V8,hE8,hF8, -⟩:=hu
     injection e1 with e1
     refine ⟨e1,rfl,κ8,V8,U7,?_,HF7.out.trans (hF8.mono fun c hc=>asg_sol hc),hsm⟩
     rw [HREST.out.2.2.2]
     exact HS7.out.withE hF8 (fun c hc=>gY hc) hE8 (by simp [Eng.assign])
    generalize cl0.getD 0 0=l0 at *
    clear hm7 hf7 hsm7 hx7 hcc hlb HBK HX6 HF6 HVL HS7 HF7
    go_upto_region 13 with fail
    go_region_law (refine wC rfl 47 _ _ rfl _ Try.func47 (by kernel_rfl) (by kernel_rfl) #[.pointer (some ⟨g,0,none⟩), .int .i64 l0, .int .i64 (s.e.cls.length:Int)] (by first|rfl|(simp [Act.eval];done)|(simp [Act.eval,Act.put];done)) HAS.out (fun e w' h=>⟨_,h.1⟩) ?_;intro vu wu hu;obtain ⟨hv9,hK⟩:=HEND.out vu wu hu;subst hv9;have HK:=Lib.hid hK;clear hK hu)
    all_goals
     clear qx HEND HAS
     go_wp2_with fail
     go_end0
     exact HK.out
end
end Go.Proofs.Yticieifacalocaa
