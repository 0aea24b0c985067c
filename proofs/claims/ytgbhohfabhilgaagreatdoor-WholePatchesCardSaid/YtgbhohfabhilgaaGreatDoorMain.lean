/- WholePatches returns true for every input, and leaves what lay as it lay. The library's table of 64 integers (math/bits) is laid as the program's text lays it: the card ties it. No other condition. Theorem: wholePatches.proved, below. The texts are kept short for the bound on a claim's size: names of two or three letters. -/
import Derived.Test.YtgbhohfabhilgaaGreatDoorPart39
import Derived.Test.YtgbhohfabhilgaaGreatDoorCards
import Derived.Test.YtgbhohfabhilgaaGreatDoorTie
set_option maxRecDepth 100000
set_option maxHeartbeats 8000000
set_option linter.unusedVariables false
set_option linter.unusedSimpArgs false
namespace Go.Proofs.YtgbhohfabhilgaaGreatDoor
section
namespace wholePatches
open Go.ChangeShapes Go.WideShapes Go.ChangeAt Go.RowKit Go.OpenShut Go.ChangeMaps
theorem own:ownKnob Tryz.prog.godebug=none:=by kernel_rfl
theorem laidOut:laidOutB Tryz.prog=true:=by kernel_rfl
theorem lifted(os:Os)(started:os.Started)(H:Type)(enc:TypeId×Value->H):
    ReturnsInHanded {} Tryz.checked os 5 .any (λw args=>(Rows.wholePatchesSpec.pre enc Tryz.prog Tryz.f5 [] false w args/\laidMetH Tryz.prog M.JU w)/\sizedMet enc Tryz.prog Tryz.f5 (OpenSpec.ofChange Rows.wholePatchesSpec) false w args)
     (Rows.wholePatchesSpec.post enc Tryz.prog Tryz.f5 false true false false):=by
 refine returnsInHanded_of_change_and (C:=Tryz.checked) (X:=λw _=>laidMetH Tryz.prog M.JU w) (λ_ _ _ hh h=>h.of_heap hh) own started (by kernel_rfl) Tryz.func5
  (ChangeSpec.witness_at (enc:=enc) (C:=Tryz.checked) (os:=os) (X:=λw _=>laidMetH Tryz.prog M.JU w) false (M.Fb os) #[.string ⟨#[]⟩,.slice none 0 0,.slice none 0 0] 8 rfl (by kernel_rfl) (by kernel_rfl) (by kernel_rfl) (by kernel_rfl) (by kernel_rfl) (M.D7 os _)) ?_
 intro W base args ds gs before hval0 hW _ _ hL _
 have hval:∀(j:Nat) t v,Tryz.f5.params[j]?=some t->args[j]?=some v->Value.okWide Tryz.prog W .any base t v:=hval0
 have hW':=hW
 obtain⟨p,q,hA0,hV,rfl,-,-⟩:=hW
 have hA:DataW.TrodAll enc Tryz.prog W 0 (λ_=>true) true Tryz.f5.params.toList args.toList ds p:=hA0
 rw[Tryz.params5]at hA hval
 obtain⟨v0,vs0,d0,ds0,p0,q0,hv0,rfl,rfl,h0,hA⟩:=trodAll_cons hA
 obtain⟨v1,vs1,d1,ds1,p1,q1,rfl,rfl,rfl,h1,hA⟩:=trodAll_cons hA
 obtain⟨v2,vs2,d2,ds2,p2,q2,rfl,rfl,rfl,h2,hA⟩:=trodAll_cons hA
 obtain⟨rfl,rfl,rfl⟩:=trodAll_nil hA
 obtain rfl:args=#[v0,v1,v2]:=by cases args;simp_all
 obtain⟨rfl,rfl⟩:=trodVars_none hV
 obtain⟨s,rfl,rfl,rfl,hs⟩:=open_string Tryz.underlying9 (hval 0 9 v0 rfl rfl) h0
 obtain⟨a1,len1,Lu,rfl⟩:=okWide_slice Tryz.underlying55 (hval 1 55 v1 rfl rfl)
 obtain⟨a2,len2,cap2,rfl⟩:=okWide_slice Tryz.underlying55 (hval 2 55 v2 rfl rfl)
 clear hA0 hval0
 simp only[agi,agH]at hW'
 have hlt:∀x∈p1++p2,x.block<W.heap.size:=λx hx=>by simpa using hW'.lt x (by simpa using hx)
 obtain⟨S1,hS1,af2⟩:=M.Dn ⟨a1,len1,Lu,rfl⟩ h1
 obtain⟨S2,hS2,af3⟩:=M.Dn ⟨a2,len2,cap2,rfl⟩ h2
 have ht:=M.JV hL
 refine(M.GX ht ht.lt s hS1 af2 hS2 af3).mono λe W' ⟨he,hg⟩=>?_
 subst he
 exact⟨_,rfl,L_ (pa:=[]++(p1++(p2++[]))) (pv:=[]) hW' (λ_ _ _=>ajH (shut_bool Tryz.underlying4 _) trodAll_mk0)
  (ajH (shut_string Tryz.underlying9 hs) (ajH (Below.trod laidOut (by kernel_rfl) (ahz (by kernel_rfl)) h1 hg (λx hx=>hlt x (ahd _ hx))) (ajH (Below.trod laidOut (by kernel_rfl) (ahz (by kernel_rfl)) h2 hg (λx hx=>hlt x (aiE _ hx))) trodAll_mk0))) rfl (by simp) hg⟩
theorem said:Rows.WholePatchesSaid:=
 OpenClaim.holds_of_wide 5 Tryz.f5 rfl rfl rfl rfl rfl rfl rfl ⟨rfl,rfl,rfl,rfl,rfl⟩ rfl rfl rfl rfl rfl (by kernel_rfl) Tryz.func5 (by kernel_rfl)
  (ahz (by kernel_rfl)) (by unfold Func.isWrapper;first|(rw[af5 (by decide+kernel)];kernel_rfl)|(rw[af4 (by decide+kernel)];exact⟨rfl,rfl⟩))
  (λos started H enc _=>lifted os started H enc)
theorem proved:Rows.WholePatchesCardSaid:=
 Claim7.holds_tied_plain_at .later [] [.data] true (true, "74b4870b50e075a54fe619d530512f60bac0e18dfc4d04e93ec80595b2cb9047") false
  said (λ_ h=>by cases h) (by kernel_rfl) (λ_ h=>by cases h) wholePatches_row_tie rfl ⟨rfl,rfl⟩ (by kernel_rfl) rfl
  (λf fn hf hfn=>by
   obtain rfl:f=5:=agQ ((show Tryz.prog.funcNamed "evergreen/evergreentop.WholePatches" =some 5 by kernel_rfl).symm.trans hf) |>.symm
   obtain rfl:fn=Tryz.f5:=(agQ (Tryz.func5.symm.trans hfn)).symm
   exact⟨by kernel_rfl,λj t ht=>by
    rw[Tryz.params5]at ht
    have h3:t=9\/t=55:=by
     rcases j with _|_|_|j
     .exact .inl (by simpa using ht.symm)
     .exact .inr (by simpa using ht.symm)
     .exact .inr (by simpa using ht.symm)
     .simp at ht
    rcases h3 with rfl|rfl
    .exact(show Tryz.prog.wantsStandIn 9=false by kernel_rfl)
    .exact(show Tryz.prog.wantsStandIn 55=false by kernel_rfl)⟩)
  (by kernel_rfl)
#print axioms proved
end wholePatches
end
end Go.Proofs.YtgbhohfabhilgaaGreatDoor
